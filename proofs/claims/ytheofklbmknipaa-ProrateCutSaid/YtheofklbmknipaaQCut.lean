/- Chapter 20: ProrateCut. -/
import Derived.Test.YtheofklbmknipaaQRow
import Derived.Deep.RegionHeld3
import Derived.Deep.DeepCutAuto
namespace Go.Proofs.Ytheofklbmknipaa
open Go.RowKit Go.Lib
set_option maxRecDepth 8000
attribute [local go_sem ↓] Go.wp_at_zero Go.wp_at_succ

theorem drop_at' {α : Type} {l : List α} {k : Nat} {x : α} (h : l[k]? = some x) : l.drop k = x :: l.drop (k + 1) := by
  obtain ⟨hk, rfl⟩ := List.getElem?_eq_some_iff.1 h
  exact List.drop_eq_getElem_cons hk
theorem src_pcs {w : World} {g o n : Nat} (l : List Pc) (c : Nat) (hn : n = l.length) (h : ∀ j x, l[j]? = some x → ∀ i u, (pcc x)[i]? = some u → w.cell? ⟨g, o + j * 4 + i, none⟩ = some u) : Wb.SrcRow w 4 (.slice (some ⟨g, o, none⟩) n c) n (rowsOf pcc l) := by
  subst hn
  refine ⟨rowsOf_length pcc_len l, .inr ⟨_, _, rfl, fun j u hj => ?_⟩⟩
  have hjl : j < l.length * 4 := by
    have := (List.getElem?_eq_some_iff.1 hj).1
    rw [rowsOf_length pcc_len] at this; exact this
  obtain ⟨x, hx1⟩ := Wb.get_ex (l := l) (k := j / 4) (by omega)
  have h1 := rowsOf_get pcc_len hx1 (j % 4) (by omega)
  rw [show j / 4 * 4 + j % 4 = j by omega, hj] at h1
  have := h _ x hx1 (j % 4) u h1.symm
  rw [show o + j / 4 * 4 + j % 4 = o + j by omega] at this
  rw [Go.WideShapes.add_plain]
  exact this
/-- pieces, written out as a literal: a source -/
theorem src_lits (w : World) (n : Nat) (hn : n = w.heap.size) (L : List Pc) (T : TypeId) (c : Nat) : Wb.SrcRow (w.alloc (.cells (rowsOf pcc L).toArray T)) 4 (.slice (some ⟨n, 0, none⟩) L.length c) L.length (rowsOf pcc L) := by
  subst hn
  refine src_pcs L c rfl fun j x hj i u hu => ?_
  have hi : i < 4 := by have := (List.getElem?_eq_some_iff.1 hu).1; rwa [pcc_len] at this
  have := rowsOf_get pcc_len hj i hi
  rw [hu] at this
  rw [Nat.zero_add]
  simpa [go_sem] using this
/-- pieces, cut around one of them -/
theorem pcs_cut {w : World} {b off c : Nat} {L : List Pc} (hc : ∀ j x, L[j]? = some x → ∀ i u, (pcc x)[i]? = some u → w.cell? ⟨b, off + j * 4 + i, none⟩ = some u) (hlc : L.length ≤ c) {k : Nat} (hk : k < L.length) :
    ∃ V1 V2, (∀ W : World, (Instr.sliceAt 28 (.slice (some ⟨b, off, none⟩) L.length c) none (some (.int .i64 k)) none).run Try.prog W = .ok V1 W) ∧ Wb.SrcRow w 4 V1 k (rowsOf pcc (L.take k)) ∧
    (∀ W : World, (Instr.sliceAt 28 (.slice (some ⟨b, off, none⟩) L.length c) (some (.int .i64 ((k : Int) + 1))) none none).run Try.prog W = .ok V2 W) ∧ Wb.SrcRow w 4 V2 (L.length - (k + 1)) (rowsOf pcc (L.drop (k + 1))) := by
  have hC : Try.prog.cellsOf 50 = 4 := by kernel_rfl
  have hk2 : ¬ ((c : Int) < (k : Int)) := by omega
  have hk4 : (k : Int) ≤ c := by omega
  have hk5 : ¬ ((L.length : Int) < (k : Int) + 1) := by omega
  have hk6 : (k : Int) + 1 ≤ L.length := by omega
  have hk7 : (k : Int) + 1 ≤ c := by omega
  have hk9 : ¬ ((k : Int) + 1 < 0) := by omega
  refine ⟨.slice (some ⟨b, off, none⟩) k c, ?_⟩
  have s1 : Wb.SrcRow w 4 (.slice (some ⟨b, off, none⟩) k c) k (rowsOf pcc (L.take k)) := src_pcs (L.take k) c (by simp; omega) (fun j x hj => by
    rw [List.getElem?_take] at hj
    split at hj
    · exact hc j x hj
    · cases hj)
  by_cases hck : c = k + 1
  · have hkl : k + 1 = L.length := by omega
    have hck' : (c : Int) = (k : Int) + 1 := by omega
    refine ⟨.slice (some ⟨b, off, none⟩) (L.length - (k + 1)) (c - (k + 1)), fun W => by simp [go_sem, Try.underlying28, hk2, hk4], s1, fun W => by simp [go_sem, Try.underlying28, hck, hk5, hk6, hk9], ?_⟩
    rw [hkl, Nat.sub_self, List.drop_length]
    exact ⟨by simp [rowsOf], .inr ⟨_, _, rfl, fun j u hj => by simp [rowsOf] at hj⟩⟩
  · have hck2 : ¬ (c : Int) = (k : Int) + 1 := by omega
    refine ⟨.slice (some ⟨b, off + (k + 1) * 4, none⟩) (L.length - (k + 1)) (c - (k + 1)), fun W => by simp [go_sem, Try.underlying28, hk2, hk4], s1, fun W => by simp [go_sem, Try.underlying28, hck, hck2, hk5, hk6, hk7, hk9], ?_⟩
    exact src_pcs (L.drop (k + 1)) _ (by simp) (fun j x hj i u hu => by
      rw [List.getElem?_drop] at hj
      have := hc _ x hj i u hu
      rw [show off + (k + 1 + j) * 4 + i = off + (k + 1) * 4 + j * 4 + i by rw [Nat.add_mul (k + 1) j 4]; omega] at this
      exact this)
/-- a box of one piece -/
structure PBox (w : World) (B : Nat) (d1 d2 y p : Int) : Prop where
  c0 : w.cell? ⟨B, 0, none⟩ = some (.int .i64 d1)
  c1 : w.cell? ⟨B, 1, none⟩ = some (.int .i64 d2)
  c2 : w.cell? ⟨B, 2, none⟩ = some (.int .i64 y)
  c3 : w.cell? ⟨B, 3, none⟩ = some (.int .i64 p)
  fz : ∀ j, w.frozen? ⟨B, j, none⟩ = false
  lt : B < w.heap.size
theorem PBox.keep {w w' : World} {B : Nat} {d1 d2 y p : Int} (h : PBox w B d1 d2 y p) (k : Wb.Ext w w') : PBox w' B d1 d2 y p :=
  ⟨k.keep h.c0, k.keep h.c1, k.keep h.c2, k.keep h.c3, fun j => (Below.frozen k h.lt).trans (h.fz j), Nat.lt_of_lt_of_le h.lt k.size⟩
theorem pbox_new (w : World) (T : TypeId) : PBox (w.alloc (.cells #[.int .i64 0, .int .i64 0, .int .i64 0, .int .i64 0] T)) w.heap.size 0 0 0 0 :=
  ⟨by simp [go_sem], by simp [go_sem], by simp [go_sem], by simp [go_sem], fun j => by simp [go_sem], by simp⟩
theorem pbox_store {w w' : World} {B : Nat} {a1 a2 a3 a4 e1 e2 e3 e4 : Int} (hw : w' = (((w.setCell ⟨B, 0, none⟩ (.int .i64 a1)).setCell ⟨B, 1, none⟩ (.int .i64 a2)).setCell ⟨B, 2, none⟩ (.int .i64 a3)).setCell ⟨B, 3, none⟩ (.int .i64 a4)) (h : PBox w B e1 e2 e3 e4) :
    PBox w' B a1 a2 a3 a4 ∧ (∀ {C : Nat} {d1 d2 y p : Int}, C ≠ B → PBox w C d1 d2 y p → PBox w' C d1 d2 y p) ∧ (∀ W : World, W.heap.size ≤ B → Wb.Ext W w → Wb.Ext W w') := by
  subst hw
  obtain ⟨c0, c1, c2, c3, fz, lt⟩ := h
  refine ⟨⟨by simp [go_sem, c0], by simp [go_sem, c1], by simp [go_sem, c2], by simp [go_sem, c3], fun j => by simp [go_sem, fz j], by simpa [go_sem] using lt⟩, fun {C d1 d2 y p} hC k => ?_, fun W hW hE => Wb.ext_set (Wb.ext_set (Wb.ext_set (Wb.ext_set hE hW _) hW _) hW _) hW _⟩
  obtain ⟨k0, k1, k2, k3, kf, kl⟩ := k
  have hC' : ¬ B = C := fun h => hC h.symm
  exact ⟨by simp [go_sem, hC, hC', k0], by simp [go_sem, hC, hC', k1], by simp [go_sem, hC, hC', k2], by simp [go_sem, hC, hC', k3], fun j => by simp [go_sem, kf j], by simpa [go_sem] using kl⟩
set_option maxHeartbeats 4000000 in
theorem cut_walk (yr ix o f t pay : Int) (v : Value) (L : List Pc) (wh at_ Y : Int) (w : World) (hi : -9223372036854775808 ≤ ix ∧ ix ≤ 9223372036854775807) (hs : Bd (f, t)) (hl : PcS w v L) (hbl : ∀ x ∈ L, BdP x) (hwh : 0 ≤ wh ∧ wh < 256) (hat : 0 ≤ at_ ∧ at_ < 65536) :
    Calls Try.prog 7 #[PeV yr ix o (f, t) pay, v, .int .u8 wh, .int .u16 at_, .int .i64 Y] w fun e w' => e = .returned (.bool true) ∧ Wb.Ext w w' := by
  obtain ⟨la, lc, rfl, hlc⟩ := hl.2.2
  have HL := Lib.hid hl
  have HBL := Lib.hid hbl
  have HI := Lib.hid hi
  have HS := Lib.hid hs
  have HW := Lib.hid hwh
  have HAT := Lib.hid hat
  clear hl hbl hi hs hwh hat
  obtain ⟨i0, hz, hz0, hz1, hz2⟩ := info_parts infoPc'
  have HIN := Lib.hid (show Try.prog.info? 50 = some i0 ∧ i0.zero = some (.agg #[.int .i64 0, .int .i64 0, .int .i64 0, .int .i64 0]) ∧ i0.size = 4 ∧ i0.bytes = 32 from ⟨hz, hz0, hz1, hz2⟩)
  clear hz hz0 hz1 hz2
  obtain ⟨⟨A, eA⟩, hA⟩ : ∃ q, salaryR ix o (f, t) [⟨(f, t), Y, 1000000⟩] = q := ⟨_, rfl⟩
  obtain ⟨⟨P, eP⟩, hP⟩ : ∃ q, perR ix o Y = q := ⟨_, rfl⟩
  have HG : Hid ((eA = 0 ∧ eP = 0 ∧ A = P) ∨ eA ≠ 0) := Lib.hid (by
    by_cases h : eA = 0
    · subst h
      have := whole_period hA
      rw [hP] at this
      obtain ⟨h1, h2⟩ := Prod.mk.inj this
      exact .inl ⟨rfl, h2, h1.symm⟩
    · exact .inr h)
  have HA := Lib.hid hA
  have HP := Lib.hid hP
  clear hA hP
  obtain ⟨⟨x, ex⟩, hX⟩ : ∃ q, salaryR ix o (f, t) L = q := ⟨_, rfl⟩
  have HX := Lib.hid hX
  clear hX
  obtain ⟨wb0, wb1⟩ := HW.out
  obtain ⟨ab0, ab1⟩ := HAT.out
  go_enter Try.func7, Try.ntmps7
  go_wp2_with fail
  go_fit (awake20_any _); rintro e w1 ⟨rfl, hb1⟩
  have xp0 : w1.cell? ⟨w.heap.size, 0, none⟩ = some (.int .i64 yr) := hb1.keep (by simp [go_sem])
  have xp1 : w1.cell? ⟨w.heap.size, 1, none⟩ = some (.int .i64 ix) := hb1.keep (by simp [go_sem])
  have xp2 : w1.cell? ⟨w.heap.size, 2, none⟩ = some (.int .i64 o) := hb1.keep (by simp [go_sem])
  have xp3 : w1.cell? ⟨w.heap.size, 3, none⟩ = some (.int .i64 f) := hb1.keep (by simp [go_sem])
  have xp4 : w1.cell? ⟨w.heap.size, 4, none⟩ = some (.int .i64 t) := hb1.keep (by simp [go_sem])
  have xp5 : w1.cell? ⟨w.heap.size, 5, none⟩ = some (.int .i64 pay) := hb1.keep (by simp [go_sem])
  have hx1 : Wb.Ext w w1 := Wb.Ext.trans (by (repeat' (first | (with_reducible assumption) | (with_reducible exact Wb.Ext.refl _) | (with_reducible refine Wb.Ext.drew ?_) | (with_reducible refine Wb.Ext.drewN ?_ _) | (with_reducible refine Wb.Ext.alloc ?_ _) | (with_reducible refine Wb.Ext.trans ?_ (by assumption))))) hb1
  have zx := Wb.cell_size xp0
  clear hb1
  by_cases hlen : 20 < L.length
  case pos =>
    have d1 : decide (20 < (L.length : Int)) = true := by simp; omega
    go_wp2
    go_ret
    exact ⟨rfl, hx1⟩
  have d1 : decide (20 < (L.length : Int)) = false := by simp; omega
  have hl20 : L.length ≤ 20 := by omega
  clear hlen
  go_wp2_with fail
  go_fit (salary_any yr ix o f t pay _ [⟨(f, t), Y, 1000000⟩] _ HI.out HS.out (pcs_lit _ _ (by simp) _ _) (by intro q hq; simp at hq; subst hq; exact HS.out) (by simp)); rintro e w2 ⟨rfl, hb2⟩
  rw [HA.out]
  have hn2 : Wb.Ext w1 w2 := Wb.Ext.trans (by (repeat' (first | (with_reducible assumption) | (with_reducible exact Wb.Ext.refl _) | (with_reducible refine Wb.Ext.drew ?_) | (with_reducible refine Wb.Ext.drewN ?_ _) | (with_reducible refine Wb.Ext.alloc ?_ _) | (with_reducible refine Wb.Ext.trans ?_ (by assumption))))) hb2
  have hx2 : Wb.Ext w w2 := hx1.trans hn2
  have xp0 := hn2.keep xp0
  have xp1 := hn2.keep xp1
  have xp2 := hn2.keep xp2
  have xp3 := hn2.keep xp3
  have xp4 := hn2.keep xp4
  have xp5 := hn2.keep xp5
  have zx := Wb.cell_size xp0
  clear hb2 hn2
  go_wp2_with fail
  go_fit (period_any yr ix o (f, t) pay Y HI.out _); rintro e w3 ⟨rfl, hb3⟩
  rw [HP.out]
  have hn3 : Wb.Ext w2 w3 := Wb.Ext.trans (by (repeat' (first | (with_reducible assumption) | (with_reducible exact Wb.Ext.refl _) | (with_reducible refine Wb.Ext.drew ?_) | (with_reducible refine Wb.Ext.drewN ?_ _) | (with_reducible refine Wb.Ext.alloc ?_ _) | (with_reducible refine Wb.Ext.trans ?_ (by assumption))))) hb3
  have hx3 : Wb.Ext w w3 := hx2.trans hn3
  have xp0 := hn3.keep xp0
  have xp1 := hn3.keep xp1
  have xp2 := hn3.keep xp2
  have xp3 := hn3.keep xp3
  have xp4 := hn3.keep xp4
  have xp5 := hn3.keep xp5
  have zx := Wb.cell_size xp0
  clear hb3 hn3
  rcases HG.out with ⟨rfl, rfl, rfl⟩ | hE
  · go_wp2_with fail
    go_fit (salary_any yr ix o f t pay _ L _ HI.out HS.out (HL.out.1.ext (by (repeat' (first | (with_reducible assumption) | (with_reducible exact Wb.Ext.refl _) | (with_reducible refine Wb.Ext.drew ?_) | (with_reducible refine Wb.Ext.drewN ?_ _) | (with_reducible refine Wb.Ext.alloc ?_ _) | (with_reducible refine Wb.Ext.trans ?_ (by assumption)))))) (fun q hq => (HBL.out q hq).1) (by omega)); rintro e w4 ⟨rfl, hb4⟩
    rw [HX.out]
    have hn4 : Wb.Ext w3 w4 := Wb.Ext.trans (by (repeat' (first | (with_reducible assumption) | (with_reducible exact Wb.Ext.refl _) | (with_reducible refine Wb.Ext.drew ?_) | (with_reducible refine Wb.Ext.drewN ?_ _) | (with_reducible refine Wb.Ext.alloc ?_ _) | (with_reducible refine Wb.Ext.trans ?_ (by assumption))))) hb4
    have hx4 : Wb.Ext w w4 := hx3.trans hn4
    have xp0 := hn4.keep xp0
    have xp1 := hn4.keep xp1
    have xp2 := hn4.keep xp2
    have xp3 := hn4.keep xp3
    have xp4 := hn4.keep xp4
    have xp5 := hn4.keep xp5
    have zx := Wb.cell_size xp0
    clear hb4 hn4
    by_cases hex : ex = 0
    case neg =>
      have d2 : (ex == 0) = false := by simpa using hex
      have d3 : (ex != 0) = true := by simpa using hex
      clear hex
      go_wp2
      go_ret
      exact ⟨rfl, by (repeat' (first | (with_reducible assumption) | (with_reducible exact Wb.Ext.refl _) | (with_reducible refine Wb.Ext.drew ?_) | (with_reducible refine Wb.Ext.drewN ?_ _) | (with_reducible refine Wb.Ext.alloc ?_ _) | (with_reducible refine Wb.Ext.trans ?_ (by assumption))))⟩
    subst hex
    by_cases hl0 : L = []
    case pos =>
      subst hl0
      have hx0 : x = 0 := by have := HX.out; simp [salaryR, salR] at this; omega
      subst hx0
      go_wp2
      go_ret
      exact ⟨rfl, by (repeat' (first | (with_reducible assumption) | (with_reducible exact Wb.Ext.refl _) | (with_reducible refine Wb.Ext.drew ?_) | (with_reducible refine Wb.Ext.drewN ?_ _) | (with_reducible refine Wb.Ext.alloc ?_ _) | (with_reducible refine Wb.Ext.trans ?_ (by assumption))))⟩
    have hpos : 0 < L.length := List.length_pos_iff.2 hl0
    have dl : ((L.length : Int) == 0) = false := by simp; omega
    have dl2 : ¬ (L.length : Int) = 0 := by omega
    have dl3 : L.length ≠ 0 := by omega
    obtain ⟨kn, hkn, hKl⟩ : ∃ kn : Nat, Int.tmod wh (L.length : Int) = kn ∧ kn < L.length := by
      have h1 := Int.emod_nonneg wh dl2
      have h2 := Int.emod_lt_of_pos wh (show (0 : Int) < L.length by omega)
      exact ⟨(wh % L.length).toNat, by rw [Int.tmod_eq_emod_of_nonneg HW.out.1]; omega, by omega⟩
    have hKi : (kn : Int) < L.length := by omega
    have hkw : IntKind.i64.wrap ((kn : Int) + 1) = (kn : Int) + 1 := IntWalk.i64_in _ (by omega)
    obtain ⟨z, hz⟩ := Wb.get_ex hKl
    have hzm := List.mem_of_getElem? hz
    have hin : inP (f, t) z.d = true := by
      have h := HX.out
      unfold salaryR at h
      rw [if_neg (by omega)] at h
      exact ((sal_fine h).1.1 z hzm).1
    obtain ⟨j1, j2, j3, j4⟩ := inP_iff.1 hin
    simp only at j2 j3 j4
    obtain ⟨⟨⟨b1, b2⟩, b3, b4⟩, _, _⟩ := HBL.out z hzm
    have HD := Lib.hid (show L = L.take kn ++ z :: L.drop (kn + 1) by rw [← drop_at' hz, List.take_append_drop])
    obtain ⟨b, off, rfl, hcells⟩ := HL.out.1.opened hl0
    have c0 := hx4.keep (hcells kn z hz 0 _ rfl)
    have c1 := hx4.keep (hcells kn z hz 1 _ rfl)
    have c2 := hx4.keep (hcells kn z hz 2 _ rfl)
    have c3 := hx4.keep (hcells kn z hz 3 _ rfl)
    simp only [Nat.add_zero] at c0
    have zb : b < w.heap.size := Wb.cell_size (hcells kn z hz 0 _ rfl)
    obtain ⟨V1, V2, hs1, hc1, hs2, hc2⟩ := pcs_cut hcells hlc hKl
    have HC1 := Lib.hid (hc1.ext hx4)
    have HC2 := Lib.hid (hc2.ext hx4)
    clear hz hzm hin hcells hc1 hc2 hl0 hpos
    obtain ⟨dd, hdd⟩ : ∃ dd : Nat, z.d.2 - z.d.1 = (dd : Int) := ⟨(z.d.2 - z.d.1).toNat, by omega⟩
    by_cases h2 : dd < 2
    case pos =>
      have d2 : decide ((dd : Int) < 2) = true := by simp; omega
      go_wp2_with fail
      go_quiet (fail)
      go_wp2
      go_ret
      exact ⟨rfl, by (repeat' (first | (with_reducible assumption) | (with_reducible exact Wb.Ext.refl _) | (with_reducible refine Wb.Ext.drew ?_) | (with_reducible refine Wb.Ext.drewN ?_ _) | (with_reducible refine Wb.Ext.alloc ?_ _) | (with_reducible refine Wb.Ext.trans ?_ (by assumption))))⟩
    have d2 : decide ((dd : Int) < 2) = false := by simp; omega
    have dq : ¬ ((dd : Int) - 1 = 0) := by omega
    obtain ⟨Q, hQ, hQl⟩ : ∃ Q : Nat, Int.tmod at_ ((dd : Int) - 1) = Q ∧ Q < dd - 1 := by
      have h1 := Int.emod_nonneg at_ dq
      have h2 := Int.emod_lt_of_pos at_ (show (0 : Int) < (dd : Int) - 1 by omega)
      exact ⟨(at_ % ((dd : Int) - 1)).toNat, by rw [Int.tmod_eq_emod_of_nonneg HAT.out.1]; omega, by omega⟩
    obtain ⟨M, hM⟩ : ∃ M : Int, z.d.1 + (1 + (Q : Int)) = M := ⟨_, rfl⟩
    have hM1 : z.d.1 < M := by omega
    have hM2 : M < z.d.2 := by omega
    go_wp2_with fail
    go_quiet (fail)
    go_wp2_with fail
    go_quiet (fail)
    go_wp2_with fail
    obtain ⟨⟨y, hy⟩, hYY⟩ : ∃ q, salaryR ix o (f, t) (L.take kn ++ (⟨(z.d.1, M), z.y, z.part⟩ : Pc) :: (⟨(M, z.d.2), z.y, z.part⟩ : Pc) :: L.drop (kn + 1)) = q := ⟨_, rfl⟩
    have HCUT : Hid ((hy = 0 ∧ y = x) ∨ hy = 9) := Lib.hid (salary_cut (x := z) (m := M) hM1 hM2 (p := L.take kn) (q := L.drop (kn + 1)) (by rw [← HD.out]; exact hl20) (by rw [← HD.out]; exact HX.out) hYY)
    have HY := Lib.hid hYY
    have HBC : Hid (∀ q ∈ L.take kn ++ (⟨(z.d.1, M), z.y, z.part⟩ : Pc) :: (⟨(M, z.d.2), z.y, z.part⟩ : Pc) :: L.drop (kn + 1), Bd q.d) := Lib.hid (by
      intro q hq
      rcases List.mem_append.1 hq with hq | hq
      · exact (HBL.out q (List.mem_of_mem_take hq)).1
      · rcases List.mem_cons.1 hq with rfl | hq
        · simp [Bd]; omega
        · rcases List.mem_cons.1 hq with rfl | hq
          · simp [Bd]; omega
          · exact (HBL.out q (List.mem_of_mem_drop hq)).1)
    clear hYY
    refine Wb.wp_at fun W0 hW0 => ?_
    have hx0 : Wb.Ext w4 W0 := by rw [hW0]; (repeat' (first | (with_reducible assumption) | (with_reducible exact Wb.Ext.refl _) | (with_reducible refine Wb.Ext.drew ?_) | (with_reducible refine Wb.Ext.drewN ?_ _) | (with_reducible refine Wb.Ext.alloc ?_ _) | (with_reducible refine Wb.Ext.trans ?_ (by assumption))))
    have hx5 : Wb.Ext w W0 := hx4.trans hx0
    have c0 := hx0.keep c0
    have c1 := hx0.keep c1
    have c2 := hx0.keep c2
    have c3 := hx0.keep c3
    have xp0 := hx0.keep xp0
    have xp1 := hx0.keep xp1
    have xp2 := hx0.keep xp2
    have xp3 := hx0.keep xp3
    have xp4 := hx0.keep xp4
    have xp5 := hx0.keep xp5
    replace HC1 := Lib.hid (HC1.out.ext hx0)
    replace HC2 := Lib.hid (HC2.out.ext hx0)
    clear hW0 hx0
    go_cut [20, 21] (fun s20 s21 wx => ∃ B1 B2, s20 = .pointer (some ⟨B1, 0, none⟩) ∧ s21 = .pointer (some ⟨B2, 0, none⟩) ∧ Hid (PBox wx B1 z.d.1 z.d.2 z.y z.part) ∧ Hid (PBox wx B2 z.d.1 z.d.2 z.y z.part) ∧ B1 ≠ B2 ∧ W0.heap.size ≤ B1 ∧ W0.heap.size ≤ B2 ∧ Wb.Ext W0 wx)
    case first =>
      refine region_start (S := (fun w' => w'.cell? ⟨b, off + kn * 4, none⟩ = some (.int .i64 z.d.1) ∧ w'.cell? ⟨b, off + kn * 4 + 1, none⟩ = some (.int .i64 z.d.2) ∧ w'.cell? ⟨b, off + kn * 4 + 2, none⟩ = some (.int .i64 z.y) ∧ w'.cell? ⟨b, off + kn * 4 + 3, none⟩ = some (.int .i64 z.part))) (n := 12) (l := #[false, false, false, false, false, false, false, false, false, false, false, false]) (by kernel_rfl) ⟨c0, c1, c2, c3⟩ (by kernel_rfl) (by kernel_rfl) (fun hHeld => ?_)
      refine take_d (i := 0) (d := 109) (v := ?_) rfl rfl (by kernel_rfl) (by kernel_rfl) (by kernel_rfl) (fun _ _ _ h => h) (Or.inl ⟨by rfl, ?_⟩) (by assumption) ?_
      rotate_left
      · (intro w hSw; (try dsimp only at hSw); go_simp; (try with_reducible rfl))
      (try simp only [Act.put, List.setIfInBounds_toArray, List.set_cons_zero, List.set_cons_succ])
      refine take_d (i := 1) (d := 110) (v := ?_) rfl rfl (by kernel_rfl) (by kernel_rfl) (by kernel_rfl) (fun _ _ _ h => h) (Or.inl ⟨by rfl, ?_⟩) (by assumption) ?_
      rotate_left
      · (intro w hSw; (try dsimp only at hSw); go_simp; (try with_reducible rfl))
      (try simp only [Act.put, List.setIfInBounds_toArray, List.set_cons_zero, List.set_cons_succ])
      refine take_d (i := 2) (d := 111) (v := ?_) rfl rfl (by kernel_rfl) (by kernel_rfl) (by kernel_rfl) (fun _ _ _ h => h) (Or.inl ⟨by rfl, ?_⟩) (by assumption) ?_
      rotate_left
      · (intro w hSw; (try dsimp only at hSw); go_simp; (try with_reducible rfl))
      (try simp only [Act.put, List.setIfInBounds_toArray, List.set_cons_zero, List.set_cons_succ])
      refine take_d (i := 3) (d := 112) (v := ?_) rfl rfl (by kernel_rfl) (by kernel_rfl) (by kernel_rfl) (fun _ _ _ h => h) (Or.inl ⟨by rfl, ?_⟩) (by assumption) ?_
      rotate_left
      · (intro w hSw; (try dsimp only at hSw); go_simp; (try with_reducible rfl))
      (try simp only [Act.put, List.setIfInBounds_toArray, List.set_cons_zero, List.set_cons_succ])
      refine take_d (i := 4) (d := 113) (v := ?_) rfl rfl (by kernel_rfl) (by kernel_rfl) (by kernel_rfl) (fun _ _ _ h => h) (Or.inl ⟨by rfl, ?_⟩) (by assumption) ?_
      rotate_left
      · (intro w hSw; (try dsimp only at hSw); go_simp; (try with_reducible rfl))
      (try simp only [Act.put, List.setIfInBounds_toArray, List.set_cons_zero, List.set_cons_succ])
      refine take_d (i := 5) (d := 114) (v := ?_) rfl rfl (by kernel_rfl) (by kernel_rfl) (by kernel_rfl) (fun _ _ _ h => h) (Or.inl ⟨by rfl, ?_⟩) (by assumption) ?_
      rotate_left
      · (intro w hSw; (try dsimp only at hSw); go_simp; (try with_reducible rfl))
      (try simp only [Act.put, List.setIfInBounds_toArray, List.set_cons_zero, List.set_cons_succ])
      refine take_d (i := 6) (d := 115) (v := ?_) rfl rfl (by kernel_rfl) (by kernel_rfl) (by kernel_rfl) (fun _ _ _ h => h) (Or.inl ⟨by rfl, ?_⟩) (by assumption) ?_
      rotate_left
      · (intro w hSw; (try dsimp only at hSw); go_simp; (try with_reducible rfl))
      (try simp only [Act.put, List.setIfInBounds_toArray, List.set_cons_zero, List.set_cons_succ])
      refine take_d (i := 7) (d := 116) (v := ?_) rfl rfl (by kernel_rfl) (by kernel_rfl) (by kernel_rfl) (fun _ _ _ h => h) (Or.inl ⟨by rfl, ?_⟩) (by assumption) ?_
      rotate_left
      · (intro w hSw; (try dsimp only at hSw); go_simp; (try with_reducible rfl))
      (try simp only [Act.put, List.setIfInBounds_toArray, List.set_cons_zero, List.set_cons_succ])
      refine wpAnyH_ready (rs := [8, 9]) (by kernel_rfl) (by simp) ?_
      refine AllReadyH.cons (o := _) rfl (fun K hK => ?_) ?_
      · go_simp
        refine atK fun w31 hw31 => ?_
        have hx31 : Wb.Ext W0 w31 := by rw [hw31]; exact Wb.Ext.alloc (.drew (.refl _)) _
        have hb31 : Wb.Ext W0.drew w31 := by rw [hw31]; exact Wb.Ext.alloc (.refl _) _
        obtain ⟨B1, hB1⟩ : ∃ o, W0.heap.size = o := ⟨_, rfl⟩
        have PB1 := Lib.hid (show PBox w31 B1 0 0 0 0 by rw [hw31, ← hB1]; first | exact pbox_new _ _ | exact (pbox_new _ _).keep (.drew (.refl _)))
        have lB1 : W0.heap.size ≤ B1 := by rw [← hB1]; first | exact Nat.le_refl _ | exact (.drew (.refl _)).size
        (try rw [hB1])
        clear hw31 hb31 hB1
        refine hK.out _ _ ⟨hx31.keep c0, hx31.keep c1, hx31.keep c2, hx31.keep c3⟩ (fun hHeld => ?_)
        clear hK K
        (try simp only [List.setIfInBounds_toArray, List.set_cons_zero, List.set_cons_succ])
        refine wpAnyH_ready (rs := [9]) (by kernel_rfl) (by simp) ?_
        refine AllReadyH.cons (o := _) rfl (fun K hK => ?_) AllReadyH.nil
        go_simp
        refine atK fun w32 hw32 => ?_
        have hx32 : Wb.Ext W0 w32 := by rw [hw32]; exact Wb.Ext.alloc hx31 _
        have hb32 : Wb.Ext w31 w32 := by rw [hw32]; exact Wb.Ext.alloc (.refl _) _
        have neB1p := PB1.out.lt
        replace PB1 := Lib.hid (PB1.out.keep hb32)
        obtain ⟨B2, hB2⟩ : ∃ o, w31.heap.size = o := ⟨_, rfl⟩
        have PB2 := Lib.hid (show PBox w32 B2 0 0 0 0 by rw [hw32, ← hB2]; first | exact pbox_new _ _ | exact (pbox_new _ _).keep (.drew (.refl _)))
        have lB2 : W0.heap.size ≤ B2 := by rw [← hB2]; first | exact Nat.le_refl _ | exact hx31.size
        have nB1B2 : B1 ≠ B2 := by rw [← hB2]; exact Nat.ne_of_lt neB1p
        have nB2B1 : B2 ≠ B1 := Ne.symm nB1B2
        (try rw [hB2])
        clear hw32 hb32 hB2
        refine hK.out _ _ ⟨hx32.keep c0, hx32.keep c1, hx32.keep c2, hx32.keep c3⟩ (fun hHeld => ?_)
        clear hK K
        (try simp only [List.setIfInBounds_toArray, List.set_cons_zero, List.set_cons_succ])
        refine wpAnyH_ready (rs := [10]) (by kernel_rfl) (by simp) ?_
        refine AllReadyH.cons (o := _) rfl (fun K hK => ?_) AllReadyH.nil
        have q0 := PB1.out.c0
        have q1 := PB1.out.c1
        have q2 := PB1.out.c2
        have q3 := PB1.out.c3
        have qf := PB1.out.fz
        go_simp
        refine atK fun w33 hw33 => ?_
        obtain ⟨PN, po, pe⟩ := pbox_store hw33 PB1.out
        replace PB1 := Lib.hid PN
        have hx33 : Wb.Ext W0 w33 := pe W0 lB1 hx32
        replace PB2 := Lib.hid (po nB2B1 PB2.out)
        clear hw33 PN po pe q0 q1 q2 q3 qf
        refine hK.out _ _ ⟨hx33.keep c0, hx33.keep c1, hx33.keep c2, hx33.keep c3⟩ (fun hHeld => ?_)
        clear hK K
        (try simp only [List.setIfInBounds_toArray, List.set_cons_zero, List.set_cons_succ])
        refine wpAnyH_ready (rs := [11]) (by kernel_rfl) (by simp) ?_
        refine AllReadyH.cons (o := _) rfl (fun K hK => ?_) AllReadyH.nil
        have q0 := PB2.out.c0
        have q1 := PB2.out.c1
        have q2 := PB2.out.c2
        have q3 := PB2.out.c3
        have qf := PB2.out.fz
        go_simp
        refine atK fun w34 hw34 => ?_
        obtain ⟨PN, po, pe⟩ := pbox_store hw34 PB2.out
        replace PB2 := Lib.hid PN
        have hx34 : Wb.Ext W0 w34 := pe W0 lB2 hx33
        replace PB1 := Lib.hid (po nB1B2 PB1.out)
        clear hw34 PN po pe q0 q1 q2 q3 qf
        refine hK.out _ _ ⟨hx34.keep c0, hx34.keep c1, hx34.keep c2, hx34.keep c3⟩ (fun hHeld => ?_)
        clear hK K
        (try simp only [List.setIfInBounds_toArray, List.set_cons_zero, List.set_cons_succ])
        refine wpAnyH_done (by kernel_rfl) ?_ _
        have hxe : Wb.Ext W0 w34 := hx34
        go_wp2_with fail
        go_meet
        exact ⟨B1, B2, rfl, rfl, PB1, PB2, nB1B2, lB1, lB2, hxe⟩
      refine AllReadyH.cons (o := _) rfl (fun K hK => ?_) ?_
      · go_simp
        refine atK fun w31 hw31 => ?_
        have hx31 : Wb.Ext W0 w31 := by rw [hw31]; exact Wb.Ext.alloc (.drew (.refl _)) _
        have hb31 : Wb.Ext W0.drew w31 := by rw [hw31]; exact Wb.Ext.alloc (.refl _) _
        obtain ⟨B2, hB2⟩ : ∃ o, W0.heap.size = o := ⟨_, rfl⟩
        have PB2 := Lib.hid (show PBox w31 B2 0 0 0 0 by rw [hw31, ← hB2]; first | exact pbox_new _ _ | exact (pbox_new _ _).keep (.drew (.refl _)))
        have lB2 : W0.heap.size ≤ B2 := by rw [← hB2]; first | exact Nat.le_refl _ | exact (.drew (.refl _)).size
        (try rw [hB2])
        clear hw31 hb31 hB2
        refine hK.out _ _ ⟨hx31.keep c0, hx31.keep c1, hx31.keep c2, hx31.keep c3⟩ (fun hHeld => ?_)
        clear hK K
        (try simp only [List.setIfInBounds_toArray, List.set_cons_zero, List.set_cons_succ])
        refine wpAnyH_ready (rs := [8]) (by kernel_rfl) (by simp) ?_
        refine AllReadyH.cons (o := _) rfl (fun K hK => ?_) AllReadyH.nil
        go_simp
        refine atK fun w32 hw32 => ?_
        have hx32 : Wb.Ext W0 w32 := by rw [hw32]; exact Wb.Ext.alloc hx31 _
        have hb32 : Wb.Ext w31 w32 := by rw [hw32]; exact Wb.Ext.alloc (.refl _) _
        have neB2p := PB2.out.lt
        replace PB2 := Lib.hid (PB2.out.keep hb32)
        obtain ⟨B1, hB1⟩ : ∃ o, w31.heap.size = o := ⟨_, rfl⟩
        have PB1 := Lib.hid (show PBox w32 B1 0 0 0 0 by rw [hw32, ← hB1]; first | exact pbox_new _ _ | exact (pbox_new _ _).keep (.drew (.refl _)))
        have lB1 : W0.heap.size ≤ B1 := by rw [← hB1]; first | exact Nat.le_refl _ | exact hx31.size
        have nB2B1 : B2 ≠ B1 := by rw [← hB1]; exact Nat.ne_of_lt neB2p
        have nB1B2 : B1 ≠ B2 := Ne.symm nB2B1
        (try rw [hB1])
        clear hw32 hb32 hB1
        refine hK.out _ _ ⟨hx32.keep c0, hx32.keep c1, hx32.keep c2, hx32.keep c3⟩ (fun hHeld => ?_)
        clear hK K
        (try simp only [List.setIfInBounds_toArray, List.set_cons_zero, List.set_cons_succ])
        refine wpAnyH_ready (rs := [10]) (by kernel_rfl) (by simp) ?_
        refine AllReadyH.cons (o := _) rfl (fun K hK => ?_) AllReadyH.nil
        have q0 := PB1.out.c0
        have q1 := PB1.out.c1
        have q2 := PB1.out.c2
        have q3 := PB1.out.c3
        have qf := PB1.out.fz
        go_simp
        refine atK fun w33 hw33 => ?_
        obtain ⟨PN, po, pe⟩ := pbox_store hw33 PB1.out
        replace PB1 := Lib.hid PN
        have hx33 : Wb.Ext W0 w33 := pe W0 lB1 hx32
        replace PB2 := Lib.hid (po nB2B1 PB2.out)
        clear hw33 PN po pe q0 q1 q2 q3 qf
        refine hK.out _ _ ⟨hx33.keep c0, hx33.keep c1, hx33.keep c2, hx33.keep c3⟩ (fun hHeld => ?_)
        clear hK K
        (try simp only [List.setIfInBounds_toArray, List.set_cons_zero, List.set_cons_succ])
        refine wpAnyH_ready (rs := [11]) (by kernel_rfl) (by simp) ?_
        refine AllReadyH.cons (o := _) rfl (fun K hK => ?_) AllReadyH.nil
        have q0 := PB2.out.c0
        have q1 := PB2.out.c1
        have q2 := PB2.out.c2
        have q3 := PB2.out.c3
        have qf := PB2.out.fz
        go_simp
        refine atK fun w34 hw34 => ?_
        obtain ⟨PN, po, pe⟩ := pbox_store hw34 PB2.out
        replace PB2 := Lib.hid PN
        have hx34 : Wb.Ext W0 w34 := pe W0 lB2 hx33
        replace PB1 := Lib.hid (po nB1B2 PB1.out)
        clear hw34 PN po pe q0 q1 q2 q3 qf
        refine hK.out _ _ ⟨hx34.keep c0, hx34.keep c1, hx34.keep c2, hx34.keep c3⟩ (fun hHeld => ?_)
        clear hK K
        (try simp only [List.setIfInBounds_toArray, List.set_cons_zero, List.set_cons_succ])
        refine wpAnyH_done (by kernel_rfl) ?_ _
        have hxe : Wb.Ext W0 w34 := hx34
        go_wp2_with fail
        go_meet
        exact ⟨B1, B2, rfl, rfl, PB1, PB2, nB1B2, lB1, lB2, hxe⟩
      exact AllReadyH.nil
    case rest =>
      obtain ⟨B1, B2, rfl, rfl, PB1, PB2, hne, l1, l2, hxc⟩ := hcut
      obtain ⟨p0, p1, p2, p3, pf, pl⟩ := PB1.out
      obtain ⟨q0, q1, q2, q3, qf, ql⟩ := PB2.out
      obtain ⟨w5, hw5⟩ : ∃ q, q = W0 := ⟨_, rfl⟩
      have hne' : B2 ≠ B1 := Ne.symm hne
      go_upto_region 19 with (fail)
      refine Wb.wp_at fun W1 hW1 => ?_
      have hxW : Wb.Ext w5 W1 := by
        rw [hW1, hw5]
        first
          | exact Wb.ext_set (Wb.ext_set hxc l1 _) l2 _
          | exact Wb.ext_set (Wb.ext_set hxc l2 _) l1 _
          | exact Wb.ext_set (Wb.ext_set (.drew hxc) l1 _) l2 _
      have x0 : W1.cell? ⟨B1, 0, none⟩ = some (.int .i64 z.d.1) := by rw [hW1]; simp [go_sem, hne, hne', p0]
      have x1 : W1.cell? ⟨B1, 1, none⟩ = some (.int .i64 M) := by rw [hW1]; simp [go_sem, hne, hne', p1]
      have x2 : W1.cell? ⟨B1, 2, none⟩ = some (.int .i64 z.y) := by rw [hW1]; simp [go_sem, hne, hne', p2]
      have x3 : W1.cell? ⟨B1, 3, none⟩ = some (.int .i64 z.part) := by rw [hW1]; simp [go_sem, hne, hne', p3]
      have y0 : W1.cell? ⟨B2, 0, none⟩ = some (.int .i64 M) := by rw [hW1]; simp [go_sem, hne, hne', q0]
      have y1 : W1.cell? ⟨B2, 1, none⟩ = some (.int .i64 z.d.2) := by rw [hW1]; simp [go_sem, hne, hne', q1]
      have y2 : W1.cell? ⟨B2, 2, none⟩ = some (.int .i64 z.y) := by rw [hW1]; simp [go_sem, hne, hne', q2]
      have y3 : W1.cell? ⟨B2, 3, none⟩ = some (.int .i64 z.part) := by rw [hW1]; simp [go_sem, hne, hne', q3]
      subst hw5
      replace HC1 := Lib.hid (HC1.out.ext hxW)
      replace HC2 := Lib.hid (HC2.out.ext hxW)
      clear hW1 p0 p1 p2 p3 pf pl q0 q1 q2 q3 qf ql PB1 PB2
      refine region_start (S := (fun w' => w'.cell? ⟨B1, 0, none⟩ = some (.int .i64 z.d.1) ∧ w'.cell? ⟨B1, 1, none⟩ = some (.int .i64 M) ∧ w'.cell? ⟨B1, 2, none⟩ = some (.int .i64 z.y) ∧ w'.cell? ⟨B1, 3, none⟩ = some (.int .i64 z.part) ∧ w'.cell? ⟨B2, 0, none⟩ = some (.int .i64 M) ∧ w'.cell? ⟨B2, 1, none⟩ = some (.int .i64 z.d.2) ∧ w'.cell? ⟨B2, 2, none⟩ = some (.int .i64 z.y) ∧ w'.cell? ⟨B2, 3, none⟩ = some (.int .i64 z.part))) (n := 15) (l := #[false, false, false, false, false, false, false, false, false, false, false, false, false, false, false]) (by kernel_rfl) ⟨x0, x1, x2, x3, y0, y1, y2, y3⟩ (by kernel_rfl) (by kernel_rfl) (fun hHeld => ?_)
      refine take_d (i := 1) (d := 124) (v := ?_) rfl rfl (by kernel_rfl) (by kernel_rfl) (by kernel_rfl) (fun _ _ _ h => h) (Or.inl ⟨by rfl, ?_⟩) (by assumption) ?_
      rotate_left
      · (intro w hSw; (try dsimp only at hSw); go_simp; (try with_reducible rfl))
      (try simp only [Act.put, List.setIfInBounds_toArray, List.set_cons_zero, List.set_cons_succ])
      refine take_d (i := 2) (d := 125) (v := ?_) rfl rfl (by kernel_rfl) (by kernel_rfl) (by kernel_rfl) (fun _ _ _ h => h) (Or.inl ⟨by rfl, ?_⟩) (by assumption) ?_
      rotate_left
      · (intro w hSw; (try dsimp only at hSw); go_simp; (try with_reducible rfl))
      (try simp only [Act.put, List.setIfInBounds_toArray, List.set_cons_zero, List.set_cons_succ])
      refine take_d (i := 3) (d := 126) (v := ?_) rfl rfl (by kernel_rfl) (by kernel_rfl) (by kernel_rfl) (fun _ _ _ h => h) (Or.inl ⟨by rfl, ?_⟩) (by assumption) ?_
      rotate_left
      · (intro w hSw; (try dsimp only at hSw); go_simp; (try with_reducible rfl))
      (try simp only [Act.put, List.setIfInBounds_toArray, List.set_cons_zero, List.set_cons_succ])
      refine take_d (i := 5) (d := 128) (v := ?_) rfl rfl (by kernel_rfl) (by kernel_rfl) (by kernel_rfl) (fun _ _ _ h => h) (Or.inl ⟨by rfl, ?_⟩) (by assumption) ?_
      rotate_left
      · (intro w hSw; (try dsimp only at hSw); go_simp; (try with_reducible rfl))
      (try simp only [Act.put, List.setIfInBounds_toArray, List.set_cons_zero, List.set_cons_succ])
      refine take_d (i := 6) (d := 129) (v := ?_) rfl rfl (by kernel_rfl) (by kernel_rfl) (by kernel_rfl) (fun _ _ _ h => h) (Or.inl ⟨by rfl, ?_⟩) (by assumption) ?_
      rotate_left
      · (intro w hSw; (try dsimp only at hSw); go_simp; (try with_reducible rfl))
      (try simp only [Act.put, List.setIfInBounds_toArray, List.set_cons_zero, List.set_cons_succ])
      refine take_d (i := 9) (d := 132) (v := ?_) rfl rfl (by kernel_rfl) (by kernel_rfl) (by kernel_rfl) (fun _ _ _ h => h) (Or.inl ⟨by rfl, ?_⟩) (by assumption) ?_
      rotate_left
      · (intro w hSw; (try dsimp only at hSw); go_simp; (try with_reducible rfl))
      (try simp only [Act.put, List.setIfInBounds_toArray, List.set_cons_zero, List.set_cons_succ])
      refine take_d (i := 10) (d := 133) (v := ?_) rfl rfl (by kernel_rfl) (by kernel_rfl) (by kernel_rfl) (fun _ _ _ h => h) (Or.inl ⟨by rfl, ?_⟩) (by assumption) ?_
      rotate_left
      · (intro w hSw; (try dsimp only at hSw); go_simp; (try with_reducible rfl))
      (try simp only [Act.put, List.setIfInBounds_toArray, List.set_cons_zero, List.set_cons_succ])
      refine take_d (i := 11) (d := 134) (v := ?_) rfl rfl (by kernel_rfl) (by kernel_rfl) (by kernel_rfl) (fun _ _ _ h => h) (Or.inl ⟨by rfl, ?_⟩) (by assumption) ?_
      rotate_left
      · (intro w hSw; (try dsimp only at hSw); go_simp; (try with_reducible rfl))
      (try simp only [Act.put, List.setIfInBounds_toArray, List.set_cons_zero, List.set_cons_succ])
      refine take_d (i := 12) (d := 135) (v := ?_) rfl rfl (by kernel_rfl) (by kernel_rfl) (by kernel_rfl) (fun _ _ _ h => h) (Or.inl ⟨by rfl, ?_⟩) (by assumption) ?_
      rotate_left
      · (intro w hSw; (try dsimp only at hSw); go_simp; (try with_reducible rfl))
      (try simp only [Act.put, List.setIfInBounds_toArray, List.set_cons_zero, List.set_cons_succ])
      refine wpAnyH_ready (rs := [0, 7]) (by kernel_rfl) (by simp) ?_
      refine AllReadyH.cons (o := _) rfl (fun K hK => ?_) ?_
      · go_simp
        refine atK fun w51 hw51 => ?_
        have hx51 : Wb.Ext W1 w51 := by rw [hw51]; exact Wb.Ext.alloc (.drew (.refl _)) _
        obtain ⟨gr, gre⟩ : ∃ g, W1.heap.size = g := ⟨_, rfl⟩
        have grh : gr < w51.heap.size := by rw [hw51, ← gre]; simp
        have HO51 := Lib.hid (show w51.ownsRow W1.heap.size 50 4 (.slice (some ⟨gr, 0, none⟩) 0 0) 0 [] by rw [hw51, ← gre]; exact own_empty (w := W1) (by first | exact Nat.le_refl _ | exact (.drew (.refl _)).size))
        (try rw [gre])
        clear hw51 gre
        refine hK.out _ _ ⟨hx51.keep x0, hx51.keep x1, hx51.keep x2, hx51.keep x3, hx51.keep y0, hx51.keep y1, hx51.keep y2, hx51.keep y3⟩ (fun hHeld => ?_)
        clear hK K
        (try simp only [List.setIfInBounds_toArray, List.set_cons_zero, List.set_cons_succ])
        refine wpAnyH_ready (rs := [4, 7]) (by kernel_rfl) (by simp) ?_
        refine AllReadyH.cons (o := _) rfl (fun K hK => ?_) ?_
        · obtain ⟨hi, hz0, hz1, hz2⟩ := HIN.out
          refine Wb.step_append_row (by rfl) _ _ _ (by rfl) W1.heap.size 50 i0 (.agg #[.int .i64 0, .int .i64 0, .int .i64 0, .int .i64 0]) 4 32 Try.underlying28 hi hz0 hz1 hz2 (by rfl) (by decide) _ (0) ([]) (by rfl) (HO51.out) _ (by rfl) (kn) (rowsOf pcc (L.take kn)) (HC1.out.ext hx51) (rpc_one _) (by unfold maxLen; omega) (by omega) (Below.size (show Wb.Ext W1 w51 from hx51)) ?_
          intro v52 w52 ho52 hg52 hat52
          obtain ⟨N52, hN52⟩ : ∃ n, n = 0 + (kn) := ⟨_, rfl⟩
          rw [← hN52] at ho52
          have HN52 := Lib.hid hN52
          have hNb52 : N52 ≤ 0 + (kn) := Nat.le_of_eq hN52
          clear hN52
          have HO52 := Lib.hid ho52
          have hx52 : Wb.Ext W1 w52 := Wb.Ext.grown hx51 hg52 (fun q hq => (HO51.out.lt q hq).1)
          obtain ⟨ra52, rc52, rfl⟩ := row_shape ho52
          replace grh : gr < w52.heap.size := Nat.lt_of_lt_of_le grh hg52.size
          clear hi hz0 hz1 hz2 ho52 hg52 hat52
          refine hK.out _ _ ⟨hx52.keep x0, hx52.keep x1, hx52.keep x2, hx52.keep x3, hx52.keep y0, hx52.keep y1, hx52.keep y2, hx52.keep y3⟩ (fun hHeld => ?_)
          clear hK K
          (try simp only [List.setIfInBounds_toArray, List.set_cons_zero, List.set_cons_succ])
          refine wpAnyH_ready (rs := [7]) (by kernel_rfl) (by simp) ?_
          refine AllReadyH.cons (o := _) rfl (fun K hK => ?_) AllReadyH.nil
          go_simp
          refine atK fun w53 hw53 => ?_
          have hx53 : Wb.Ext W1 w53 := by rw [hw53]; exact Wb.Ext.alloc hx52 _
          have HO53r := Lib.hid (show w53.ownsRow W1.heap.size 50 4 _ _ _ by rw [hw53]; exact HO52.out.alloc _)
          have grp := grh
          replace grh : gr < w53.heap.size := Nat.lt_of_lt_of_le grh (by rw [hw53]; simp)
          obtain ⟨gx, gxe⟩ : ∃ g, w52.heap.size = g := ⟨_, rfl⟩
          have gxh : gx < w53.heap.size := by rw [hw53, ← gxe]; simp
          have negrgx : gr ≠ gx := by have := grp; omega
          have negxgr : gx ≠ gr := Ne.symm negrgx
          have HLx := Lib.hid (show Wb.SrcRow w53 4 (.slice (some ⟨gx, 0, none⟩) 2 2) 2 (rowsOf pcc [(⟨(z.d.1, M), z.y, z.part⟩ : Pc), (⟨(M, z.d.2), z.y, z.part⟩ : Pc)]) by rw [hw53, ← gxe]; exact src_lits w52 _ rfl [(⟨(z.d.1, M), z.y, z.part⟩ : Pc), (⟨(M, z.d.2), z.y, z.part⟩ : Pc)] _ _)
          (try rw [gxe])
          clear hw53 gxe
          refine hK.out _ _ ⟨hx53.keep x0, hx53.keep x1, hx53.keep x2, hx53.keep x3, hx53.keep y0, hx53.keep y1, hx53.keep y2, hx53.keep y3⟩ (fun hHeld => ?_)
          clear hK K
          (try simp only [List.setIfInBounds_toArray, List.set_cons_zero, List.set_cons_succ])
          refine wpAnyH_ready (rs := [8]) (by kernel_rfl) (by simp) ?_
          refine AllReadyH.cons (o := _) rfl (fun K hK => ?_) AllReadyH.nil
          obtain ⟨hi, hz0, hz1, hz2⟩ := HIN.out
          refine Wb.step_append_row (by rfl) _ _ _ (by rfl) W1.heap.size 50 i0 (.agg #[.int .i64 0, .int .i64 0, .int .i64 0, .int .i64 0]) 4 32 Try.underlying28 hi hz0 hz1 hz2 (by rfl) (by decide) _ (N52) ([] ++ rowsOf pcc (L.take kn)) (by rfl) (HO53r.out) _ (by rfl) (2) (rowsOf pcc [(⟨(z.d.1, M), z.y, z.part⟩ : Pc), (⟨(M, z.d.2), z.y, z.part⟩ : Pc)]) (HLx.out) (rpc_one _) (by unfold maxLen; omega) (by omega) (Below.size (show Wb.Ext W1 w53 from hx53)) ?_
          intro v54 w54 ho54 hg54 hat54
          obtain ⟨N54, hN54⟩ : ∃ n, n = N52 + (2) := ⟨_, rfl⟩
          rw [← hN54] at ho54
          have HN54 := Lib.hid hN54
          have hNb54 : N54 ≤ N52 + (2) := Nat.le_of_eq hN54
          clear hN54
          have HO54 := Lib.hid ho54
          have hx54 : Wb.Ext W1 w54 := Wb.Ext.grown hx53 hg54 (fun q hq => (HO53r.out.lt q hq).1)
          obtain ⟨ra54, rc54, rfl⟩ := row_shape ho54
          replace grh : gr < w54.heap.size := Nat.lt_of_lt_of_le grh hg54.size
          replace gxh : gx < w54.heap.size := Nat.lt_of_lt_of_le gxh hg54.size
          clear hi hz0 hz1 hz2 ho54 hg54 hat54
          refine hK.out _ _ ⟨hx54.keep x0, hx54.keep x1, hx54.keep x2, hx54.keep x3, hx54.keep y0, hx54.keep y1, hx54.keep y2, hx54.keep y3⟩ (fun hHeld => ?_)
          clear hK K
          (try simp only [List.setIfInBounds_toArray, List.set_cons_zero, List.set_cons_succ])
          refine wpAnyH_ready (rs := [13]) (by kernel_rfl) (by simp) ?_
          refine AllReadyH.cons (o := _) rfl (fun K hK => ?_) AllReadyH.nil
          obtain ⟨hi, hz0, hz1, hz2⟩ := HIN.out
          refine Wb.step_append_row (by rfl) _ _ _ (by rfl) W1.heap.size 50 i0 (.agg #[.int .i64 0, .int .i64 0, .int .i64 0, .int .i64 0]) 4 32 Try.underlying28 hi hz0 hz1 hz2 (by rfl) (by decide) _ (N54) ([] ++ rowsOf pcc (L.take kn) ++ rowsOf pcc [(⟨(z.d.1, M), z.y, z.part⟩ : Pc), (⟨(M, z.d.2), z.y, z.part⟩ : Pc)]) (by rfl) (HO54.out) _ (by rfl) (L.length - (kn + 1)) (rowsOf pcc (L.drop (kn + 1))) (HC2.out.ext hx54) (rpc_one _) (by unfold maxLen; omega) (by omega) (Below.size (show Wb.Ext W1 w54 from hx54)) ?_
          intro v55 w55 ho55 hg55 hat55
          obtain ⟨N55, hN55⟩ : ∃ n, n = N54 + (L.length - (kn + 1)) := ⟨_, rfl⟩
          rw [← hN55] at ho55
          have HN55 := Lib.hid hN55
          have hNb55 : N55 ≤ N54 + (L.length - (kn + 1)) := Nat.le_of_eq hN55
          clear hN55
          have HO55 := Lib.hid ho55
          have hx55 : Wb.Ext W1 w55 := Wb.Ext.grown hx54 hg55 (fun q hq => (HO54.out.lt q hq).1)
          obtain ⟨ra55, rc55, rfl⟩ := row_shape ho55
          replace grh : gr < w55.heap.size := Nat.lt_of_lt_of_le grh hg55.size
          replace gxh : gx < w55.heap.size := Nat.lt_of_lt_of_le gxh hg55.size
          clear hi hz0 hz1 hz2 ho55 hg55 hat55
          refine hK.out _ _ ⟨hx55.keep x0, hx55.keep x1, hx55.keep x2, hx55.keep x3, hx55.keep y0, hx55.keep y1, hx55.keep y2, hx55.keep y3⟩ (fun hHeld => ?_)
          clear hK K
          (try simp only [List.setIfInBounds_toArray, List.set_cons_zero, List.set_cons_succ])
          refine take_d (i := 14) (d := 22) (v := ?_) rfl rfl (by kernel_rfl) (by kernel_rfl) (by kernel_rfl) (fun _ _ _ h => h) (Or.inl ⟨by rfl, ?_⟩) (by assumption) ?_
          rotate_left
          · (intro w hSw; (try dsimp only at hSw); go_simp; (try with_reducible rfl))
          (try simp only [Act.put, List.setIfInBounds_toArray, List.set_cons_zero, List.set_cons_succ])
          refine wpAnyH_done (by kernel_rfl) ?_ _
          have hxe : Wb.Ext w5 w55 := hxW.trans hx55
          have HT := Lib.hid (row_tbl (base := W1.heap.size) (e := 50) (n := N55) (l := L.take kn ++ (⟨(z.d.1, M), z.y, z.part⟩ : Pc) :: (⟨(M, z.d.2), z.y, z.part⟩ : Pc) :: L.drop (kn + 1)) pcc_len (by decide) (by
            have h1 := HO55.out
            have h3 : rowsOf pcc (L.take kn ++ (⟨(z.d.1, M), z.y, z.part⟩ : Pc) :: (⟨(M, z.d.2), z.y, z.part⟩ : Pc) :: L.drop (kn + 1)) = [] ++ rowsOf pcc (L.take kn) ++ rowsOf pcc [(⟨(z.d.1, M), z.y, z.part⟩ : Pc), (⟨(M, z.d.2), z.y, z.part⟩ : Pc)] ++ rowsOf pcc (L.drop (kn + 1)) := by simp [rowsOf]
            rw [h3]
            exact h1))
          have xp0 := hxe.keep xp0
          have xp1 := hxe.keep xp1
          have xp2 := hxe.keep xp2
          have xp3 := hxe.keep xp3
          have xp4 := hxe.keep xp4
          have xp5 := hxe.keep xp5
          have hx9 : Wb.Ext w w55 := hx5.trans hxe
          go_wp2_with fail
          go_fit (salary_any yr ix o f t pay _ (L.take kn ++ (⟨(z.d.1, M), z.y, z.part⟩ : Pc) :: (⟨(M, z.d.2), z.y, z.part⟩ : Pc) :: L.drop (kn + 1)) _ HI.out HS.out (HT.out.ext (by (repeat' (first | (with_reducible assumption) | (with_reducible exact Wb.Ext.refl _) | (with_reducible refine Wb.Ext.drew ?_) | (with_reducible refine Wb.Ext.drewN ?_ _) | (with_reducible refine Wb.Ext.alloc ?_ _) | (with_reducible refine Wb.Ext.trans ?_ (by assumption)))))) HBC.out (by simp; omega)); rintro e w99 ⟨rfl, hb99⟩
          rw [HY.out]
          have hx10 : Wb.Ext w w99 := hx9.trans (Wb.Ext.trans (by (repeat' (first | (with_reducible assumption) | (with_reducible exact Wb.Ext.refl _) | (with_reducible refine Wb.Ext.drew ?_) | (with_reducible refine Wb.Ext.drewN ?_ _) | (with_reducible refine Wb.Ext.alloc ?_ _) | (with_reducible refine Wb.Ext.trans ?_ (by assumption))))) hb99)
          clear hb99
          rcases HCUT.out with ⟨rfl, rfl⟩ | rfl <;> (go_wp2; go_ret; exact ⟨rfl, hx10⟩)
        refine AllReadyH.cons (o := _) rfl (fun K hK => ?_) ?_
        · go_simp
          refine atK fun w52 hw52 => ?_
          have hx52 : Wb.Ext W1 w52 := by rw [hw52]; exact Wb.Ext.alloc hx51 _
          have HO52r := Lib.hid (show w52.ownsRow W1.heap.size 50 4 _ _ _ by rw [hw52]; exact HO51.out.alloc _)
          have grp := grh
          replace grh : gr < w52.heap.size := Nat.lt_of_lt_of_le grh (by rw [hw52]; simp)
          obtain ⟨gx, gxe⟩ : ∃ g, w51.heap.size = g := ⟨_, rfl⟩
          have gxh : gx < w52.heap.size := by rw [hw52, ← gxe]; simp
          have negrgx : gr ≠ gx := by have := grp; omega
          have negxgr : gx ≠ gr := Ne.symm negrgx
          have HLx := Lib.hid (show Wb.SrcRow w52 4 (.slice (some ⟨gx, 0, none⟩) 2 2) 2 (rowsOf pcc [(⟨(z.d.1, M), z.y, z.part⟩ : Pc), (⟨(M, z.d.2), z.y, z.part⟩ : Pc)]) by rw [hw52, ← gxe]; exact src_lits w51 _ rfl [(⟨(z.d.1, M), z.y, z.part⟩ : Pc), (⟨(M, z.d.2), z.y, z.part⟩ : Pc)] _ _)
          (try rw [gxe])
          clear hw52 gxe
          refine hK.out _ _ ⟨hx52.keep x0, hx52.keep x1, hx52.keep x2, hx52.keep x3, hx52.keep y0, hx52.keep y1, hx52.keep y2, hx52.keep y3⟩ (fun hHeld => ?_)
          clear hK K
          (try simp only [List.setIfInBounds_toArray, List.set_cons_zero, List.set_cons_succ])
          refine wpAnyH_ready (rs := [4]) (by kernel_rfl) (by simp) ?_
          refine AllReadyH.cons (o := _) rfl (fun K hK => ?_) AllReadyH.nil
          obtain ⟨hi, hz0, hz1, hz2⟩ := HIN.out
          refine Wb.step_append_row (by rfl) _ _ _ (by rfl) W1.heap.size 50 i0 (.agg #[.int .i64 0, .int .i64 0, .int .i64 0, .int .i64 0]) 4 32 Try.underlying28 hi hz0 hz1 hz2 (by rfl) (by decide) _ (0) ([]) (by rfl) (HO52r.out) _ (by rfl) (kn) (rowsOf pcc (L.take kn)) (HC1.out.ext hx52) (rpc_one _) (by unfold maxLen; omega) (by omega) (Below.size (show Wb.Ext W1 w52 from hx52)) ?_
          intro v53 w53 ho53 hg53 hat53
          obtain ⟨N53, hN53⟩ : ∃ n, n = 0 + (kn) := ⟨_, rfl⟩
          rw [← hN53] at ho53
          have HN53 := Lib.hid hN53
          have hNb53 : N53 ≤ 0 + (kn) := Nat.le_of_eq hN53
          clear hN53
          have HO53 := Lib.hid ho53
          have hx53 : Wb.Ext W1 w53 := Wb.Ext.grown hx52 hg53 (fun q hq => (HO52r.out.lt q hq).1)
          replace HLx := Lib.hid (src_grown HLx.out hg53 (fun a m c e => by cases e; intro hq; injection hq with hq; exact negrgx hq))
          obtain ⟨ra53, rc53, rfl⟩ := row_shape ho53
          replace grh : gr < w53.heap.size := Nat.lt_of_lt_of_le grh hg53.size
          replace gxh : gx < w53.heap.size := Nat.lt_of_lt_of_le gxh hg53.size
          clear hi hz0 hz1 hz2 ho53 hg53 hat53
          refine hK.out _ _ ⟨hx53.keep x0, hx53.keep x1, hx53.keep x2, hx53.keep x3, hx53.keep y0, hx53.keep y1, hx53.keep y2, hx53.keep y3⟩ (fun hHeld => ?_)
          clear hK K
          (try simp only [List.setIfInBounds_toArray, List.set_cons_zero, List.set_cons_succ])
          refine wpAnyH_ready (rs := [8]) (by kernel_rfl) (by simp) ?_
          refine AllReadyH.cons (o := _) rfl (fun K hK => ?_) AllReadyH.nil
          obtain ⟨hi, hz0, hz1, hz2⟩ := HIN.out
          refine Wb.step_append_row (by rfl) _ _ _ (by rfl) W1.heap.size 50 i0 (.agg #[.int .i64 0, .int .i64 0, .int .i64 0, .int .i64 0]) 4 32 Try.underlying28 hi hz0 hz1 hz2 (by rfl) (by decide) _ (N53) ([] ++ rowsOf pcc (L.take kn)) (by rfl) (HO53.out) _ (by rfl) (2) (rowsOf pcc [(⟨(z.d.1, M), z.y, z.part⟩ : Pc), (⟨(M, z.d.2), z.y, z.part⟩ : Pc)]) (HLx.out) (rpc_one _) (by unfold maxLen; omega) (by omega) (Below.size (show Wb.Ext W1 w53 from hx53)) ?_
          intro v54 w54 ho54 hg54 hat54
          obtain ⟨N54, hN54⟩ : ∃ n, n = N53 + (2) := ⟨_, rfl⟩
          rw [← hN54] at ho54
          have HN54 := Lib.hid hN54
          have hNb54 : N54 ≤ N53 + (2) := Nat.le_of_eq hN54
          clear hN54
          have HO54 := Lib.hid ho54
          have hx54 : Wb.Ext W1 w54 := Wb.Ext.grown hx53 hg54 (fun q hq => (HO53.out.lt q hq).1)
          obtain ⟨ra54, rc54, rfl⟩ := row_shape ho54
          replace grh : gr < w54.heap.size := Nat.lt_of_lt_of_le grh hg54.size
          replace gxh : gx < w54.heap.size := Nat.lt_of_lt_of_le gxh hg54.size
          clear hi hz0 hz1 hz2 ho54 hg54 hat54
          refine hK.out _ _ ⟨hx54.keep x0, hx54.keep x1, hx54.keep x2, hx54.keep x3, hx54.keep y0, hx54.keep y1, hx54.keep y2, hx54.keep y3⟩ (fun hHeld => ?_)
          clear hK K
          (try simp only [List.setIfInBounds_toArray, List.set_cons_zero, List.set_cons_succ])
          refine wpAnyH_ready (rs := [13]) (by kernel_rfl) (by simp) ?_
          refine AllReadyH.cons (o := _) rfl (fun K hK => ?_) AllReadyH.nil
          obtain ⟨hi, hz0, hz1, hz2⟩ := HIN.out
          refine Wb.step_append_row (by rfl) _ _ _ (by rfl) W1.heap.size 50 i0 (.agg #[.int .i64 0, .int .i64 0, .int .i64 0, .int .i64 0]) 4 32 Try.underlying28 hi hz0 hz1 hz2 (by rfl) (by decide) _ (N54) ([] ++ rowsOf pcc (L.take kn) ++ rowsOf pcc [(⟨(z.d.1, M), z.y, z.part⟩ : Pc), (⟨(M, z.d.2), z.y, z.part⟩ : Pc)]) (by rfl) (HO54.out) _ (by rfl) (L.length - (kn + 1)) (rowsOf pcc (L.drop (kn + 1))) (HC2.out.ext hx54) (rpc_one _) (by unfold maxLen; omega) (by omega) (Below.size (show Wb.Ext W1 w54 from hx54)) ?_
          intro v55 w55 ho55 hg55 hat55
          obtain ⟨N55, hN55⟩ : ∃ n, n = N54 + (L.length - (kn + 1)) := ⟨_, rfl⟩
          rw [← hN55] at ho55
          have HN55 := Lib.hid hN55
          have hNb55 : N55 ≤ N54 + (L.length - (kn + 1)) := Nat.le_of_eq hN55
          clear hN55
          have HO55 := Lib.hid ho55
          have hx55 : Wb.Ext W1 w55 := Wb.Ext.grown hx54 hg55 (fun q hq => (HO54.out.lt q hq).1)
          obtain ⟨ra55, rc55, rfl⟩ := row_shape ho55
          replace grh : gr < w55.heap.size := Nat.lt_of_lt_of_le grh hg55.size
          replace gxh : gx < w55.heap.size := Nat.lt_of_lt_of_le gxh hg55.size
          clear hi hz0 hz1 hz2 ho55 hg55 hat55
          refine hK.out _ _ ⟨hx55.keep x0, hx55.keep x1, hx55.keep x2, hx55.keep x3, hx55.keep y0, hx55.keep y1, hx55.keep y2, hx55.keep y3⟩ (fun hHeld => ?_)
          clear hK K
          (try simp only [List.setIfInBounds_toArray, List.set_cons_zero, List.set_cons_succ])
          refine take_d (i := 14) (d := 22) (v := ?_) rfl rfl (by kernel_rfl) (by kernel_rfl) (by kernel_rfl) (fun _ _ _ h => h) (Or.inl ⟨by rfl, ?_⟩) (by assumption) ?_
          rotate_left
          · (intro w hSw; (try dsimp only at hSw); go_simp; (try with_reducible rfl))
          (try simp only [Act.put, List.setIfInBounds_toArray, List.set_cons_zero, List.set_cons_succ])
          refine wpAnyH_done (by kernel_rfl) ?_ _
          have hxe : Wb.Ext w5 w55 := hxW.trans hx55
          have HT := Lib.hid (row_tbl (base := W1.heap.size) (e := 50) (n := N55) (l := L.take kn ++ (⟨(z.d.1, M), z.y, z.part⟩ : Pc) :: (⟨(M, z.d.2), z.y, z.part⟩ : Pc) :: L.drop (kn + 1)) pcc_len (by decide) (by
            have h1 := HO55.out
            have h3 : rowsOf pcc (L.take kn ++ (⟨(z.d.1, M), z.y, z.part⟩ : Pc) :: (⟨(M, z.d.2), z.y, z.part⟩ : Pc) :: L.drop (kn + 1)) = [] ++ rowsOf pcc (L.take kn) ++ rowsOf pcc [(⟨(z.d.1, M), z.y, z.part⟩ : Pc), (⟨(M, z.d.2), z.y, z.part⟩ : Pc)] ++ rowsOf pcc (L.drop (kn + 1)) := by simp [rowsOf]
            rw [h3]
            exact h1))
          have xp0 := hxe.keep xp0
          have xp1 := hxe.keep xp1
          have xp2 := hxe.keep xp2
          have xp3 := hxe.keep xp3
          have xp4 := hxe.keep xp4
          have xp5 := hxe.keep xp5
          have hx9 : Wb.Ext w w55 := hx5.trans hxe
          go_wp2_with fail
          go_fit (salary_any yr ix o f t pay _ (L.take kn ++ (⟨(z.d.1, M), z.y, z.part⟩ : Pc) :: (⟨(M, z.d.2), z.y, z.part⟩ : Pc) :: L.drop (kn + 1)) _ HI.out HS.out (HT.out.ext (by (repeat' (first | (with_reducible assumption) | (with_reducible exact Wb.Ext.refl _) | (with_reducible refine Wb.Ext.drew ?_) | (with_reducible refine Wb.Ext.drewN ?_ _) | (with_reducible refine Wb.Ext.alloc ?_ _) | (with_reducible refine Wb.Ext.trans ?_ (by assumption)))))) HBC.out (by simp; omega)); rintro e w99 ⟨rfl, hb99⟩
          rw [HY.out]
          have hx10 : Wb.Ext w w99 := hx9.trans (Wb.Ext.trans (by (repeat' (first | (with_reducible assumption) | (with_reducible exact Wb.Ext.refl _) | (with_reducible refine Wb.Ext.drew ?_) | (with_reducible refine Wb.Ext.drewN ?_ _) | (with_reducible refine Wb.Ext.alloc ?_ _) | (with_reducible refine Wb.Ext.trans ?_ (by assumption))))) hb99)
          clear hb99
          rcases HCUT.out with ⟨rfl, rfl⟩ | rfl <;> (go_wp2; go_ret; exact ⟨rfl, hx10⟩)
        exact AllReadyH.nil
      refine AllReadyH.cons (o := _) rfl (fun K hK => ?_) ?_
      · go_simp
        refine atK fun w51 hw51 => ?_
        have hx51 : Wb.Ext W1 w51 := by rw [hw51]; exact Wb.Ext.alloc (.drew (.refl _)) _
        obtain ⟨gx, gxe⟩ : ∃ g, W1.heap.size = g := ⟨_, rfl⟩
        have gxh : gx < w51.heap.size := by rw [hw51, ← gxe]; simp
        have HLx := Lib.hid (show Wb.SrcRow w51 4 (.slice (some ⟨gx, 0, none⟩) 2 2) 2 (rowsOf pcc [(⟨(z.d.1, M), z.y, z.part⟩ : Pc), (⟨(M, z.d.2), z.y, z.part⟩ : Pc)]) by rw [hw51, ← gxe]; exact src_lits W1 _ rfl [(⟨(z.d.1, M), z.y, z.part⟩ : Pc), (⟨(M, z.d.2), z.y, z.part⟩ : Pc)] _ _)
        (try rw [gxe])
        clear hw51 gxe
        refine hK.out _ _ ⟨hx51.keep x0, hx51.keep x1, hx51.keep x2, hx51.keep x3, hx51.keep y0, hx51.keep y1, hx51.keep y2, hx51.keep y3⟩ (fun hHeld => ?_)
        clear hK K
        (try simp only [List.setIfInBounds_toArray, List.set_cons_zero, List.set_cons_succ])
        refine wpAnyH_ready (rs := [0]) (by kernel_rfl) (by simp) ?_
        refine AllReadyH.cons (o := _) rfl (fun K hK => ?_) AllReadyH.nil
        go_simp
        refine atK fun w52 hw52 => ?_
        have hx52 : Wb.Ext W1 w52 := by rw [hw52]; exact Wb.Ext.alloc hx51 _
        replace HLx := Lib.hid (HLx.out.ext (show Wb.Ext w51 w52 by rw [hw52]; exact Wb.Ext.alloc (.refl _) _))
        have gxp := gxh
        replace gxh : gx < w52.heap.size := Nat.lt_of_lt_of_le gxh (by rw [hw52]; simp)
        obtain ⟨gr, gre⟩ : ∃ g, w51.heap.size = g := ⟨_, rfl⟩
        have grh : gr < w52.heap.size := by rw [hw52, ← gre]; simp
        have negxgr : gx ≠ gr := by have := gxp; omega
        have negrgx : gr ≠ gx := Ne.symm negxgr
        have HO52 := Lib.hid (show w52.ownsRow W1.heap.size 50 4 (.slice (some ⟨gr, 0, none⟩) 0 0) 0 [] by rw [hw52, ← gre]; exact own_empty (w := w51) (by first | exact Nat.le_refl _ | exact hx51.size))
        (try rw [gre])
        clear hw52 gre
        refine hK.out _ _ ⟨hx52.keep x0, hx52.keep x1, hx52.keep x2, hx52.keep x3, hx52.keep y0, hx52.keep y1, hx52.keep y2, hx52.keep y3⟩ (fun hHeld => ?_)
        clear hK K
        (try simp only [List.setIfInBounds_toArray, List.set_cons_zero, List.set_cons_succ])
        refine wpAnyH_ready (rs := [4]) (by kernel_rfl) (by simp) ?_
        refine AllReadyH.cons (o := _) rfl (fun K hK => ?_) AllReadyH.nil
        obtain ⟨hi, hz0, hz1, hz2⟩ := HIN.out
        refine Wb.step_append_row (by rfl) _ _ _ (by rfl) W1.heap.size 50 i0 (.agg #[.int .i64 0, .int .i64 0, .int .i64 0, .int .i64 0]) 4 32 Try.underlying28 hi hz0 hz1 hz2 (by rfl) (by decide) _ (0) ([]) (by rfl) (HO52.out) _ (by rfl) (kn) (rowsOf pcc (L.take kn)) (HC1.out.ext hx52) (rpc_one _) (by unfold maxLen; omega) (by omega) (Below.size (show Wb.Ext W1 w52 from hx52)) ?_
        intro v53 w53 ho53 hg53 hat53
        obtain ⟨N53, hN53⟩ : ∃ n, n = 0 + (kn) := ⟨_, rfl⟩
        rw [← hN53] at ho53
        have HN53 := Lib.hid hN53
        have hNb53 : N53 ≤ 0 + (kn) := Nat.le_of_eq hN53
        clear hN53
        have HO53 := Lib.hid ho53
        have hx53 : Wb.Ext W1 w53 := Wb.Ext.grown hx52 hg53 (fun q hq => (HO52.out.lt q hq).1)
        replace HLx := Lib.hid (src_grown HLx.out hg53 (fun a m c e => by cases e; intro hq; injection hq with hq; exact negrgx hq))
        obtain ⟨ra53, rc53, rfl⟩ := row_shape ho53
        replace gxh : gx < w53.heap.size := Nat.lt_of_lt_of_le gxh hg53.size
        replace grh : gr < w53.heap.size := Nat.lt_of_lt_of_le grh hg53.size
        clear hi hz0 hz1 hz2 ho53 hg53 hat53
        refine hK.out _ _ ⟨hx53.keep x0, hx53.keep x1, hx53.keep x2, hx53.keep x3, hx53.keep y0, hx53.keep y1, hx53.keep y2, hx53.keep y3⟩ (fun hHeld => ?_)
        clear hK K
        (try simp only [List.setIfInBounds_toArray, List.set_cons_zero, List.set_cons_succ])
        refine wpAnyH_ready (rs := [8]) (by kernel_rfl) (by simp) ?_
        refine AllReadyH.cons (o := _) rfl (fun K hK => ?_) AllReadyH.nil
        obtain ⟨hi, hz0, hz1, hz2⟩ := HIN.out
        refine Wb.step_append_row (by rfl) _ _ _ (by rfl) W1.heap.size 50 i0 (.agg #[.int .i64 0, .int .i64 0, .int .i64 0, .int .i64 0]) 4 32 Try.underlying28 hi hz0 hz1 hz2 (by rfl) (by decide) _ (N53) ([] ++ rowsOf pcc (L.take kn)) (by rfl) (HO53.out) _ (by rfl) (2) (rowsOf pcc [(⟨(z.d.1, M), z.y, z.part⟩ : Pc), (⟨(M, z.d.2), z.y, z.part⟩ : Pc)]) (HLx.out) (rpc_one _) (by unfold maxLen; omega) (by omega) (Below.size (show Wb.Ext W1 w53 from hx53)) ?_
        intro v54 w54 ho54 hg54 hat54
        obtain ⟨N54, hN54⟩ : ∃ n, n = N53 + (2) := ⟨_, rfl⟩
        rw [← hN54] at ho54
        have HN54 := Lib.hid hN54
        have hNb54 : N54 ≤ N53 + (2) := Nat.le_of_eq hN54
        clear hN54
        have HO54 := Lib.hid ho54
        have hx54 : Wb.Ext W1 w54 := Wb.Ext.grown hx53 hg54 (fun q hq => (HO53.out.lt q hq).1)
        obtain ⟨ra54, rc54, rfl⟩ := row_shape ho54
        replace gxh : gx < w54.heap.size := Nat.lt_of_lt_of_le gxh hg54.size
        replace grh : gr < w54.heap.size := Nat.lt_of_lt_of_le grh hg54.size
        clear hi hz0 hz1 hz2 ho54 hg54 hat54
        refine hK.out _ _ ⟨hx54.keep x0, hx54.keep x1, hx54.keep x2, hx54.keep x3, hx54.keep y0, hx54.keep y1, hx54.keep y2, hx54.keep y3⟩ (fun hHeld => ?_)
        clear hK K
        (try simp only [List.setIfInBounds_toArray, List.set_cons_zero, List.set_cons_succ])
        refine wpAnyH_ready (rs := [13]) (by kernel_rfl) (by simp) ?_
        refine AllReadyH.cons (o := _) rfl (fun K hK => ?_) AllReadyH.nil
        obtain ⟨hi, hz0, hz1, hz2⟩ := HIN.out
        refine Wb.step_append_row (by rfl) _ _ _ (by rfl) W1.heap.size 50 i0 (.agg #[.int .i64 0, .int .i64 0, .int .i64 0, .int .i64 0]) 4 32 Try.underlying28 hi hz0 hz1 hz2 (by rfl) (by decide) _ (N54) ([] ++ rowsOf pcc (L.take kn) ++ rowsOf pcc [(⟨(z.d.1, M), z.y, z.part⟩ : Pc), (⟨(M, z.d.2), z.y, z.part⟩ : Pc)]) (by rfl) (HO54.out) _ (by rfl) (L.length - (kn + 1)) (rowsOf pcc (L.drop (kn + 1))) (HC2.out.ext hx54) (rpc_one _) (by unfold maxLen; omega) (by omega) (Below.size (show Wb.Ext W1 w54 from hx54)) ?_
        intro v55 w55 ho55 hg55 hat55
        obtain ⟨N55, hN55⟩ : ∃ n, n = N54 + (L.length - (kn + 1)) := ⟨_, rfl⟩
        rw [← hN55] at ho55
        have HN55 := Lib.hid hN55
        have hNb55 : N55 ≤ N54 + (L.length - (kn + 1)) := Nat.le_of_eq hN55
        clear hN55
        have HO55 := Lib.hid ho55
        have hx55 : Wb.Ext W1 w55 := Wb.Ext.grown hx54 hg55 (fun q hq => (HO54.out.lt q hq).1)
        obtain ⟨ra55, rc55, rfl⟩ := row_shape ho55
        replace gxh : gx < w55.heap.size := Nat.lt_of_lt_of_le gxh hg55.size
        replace grh : gr < w55.heap.size := Nat.lt_of_lt_of_le grh hg55.size
        clear hi hz0 hz1 hz2 ho55 hg55 hat55
        refine hK.out _ _ ⟨hx55.keep x0, hx55.keep x1, hx55.keep x2, hx55.keep x3, hx55.keep y0, hx55.keep y1, hx55.keep y2, hx55.keep y3⟩ (fun hHeld => ?_)
        clear hK K
        (try simp only [List.setIfInBounds_toArray, List.set_cons_zero, List.set_cons_succ])
        refine take_d (i := 14) (d := 22) (v := ?_) rfl rfl (by kernel_rfl) (by kernel_rfl) (by kernel_rfl) (fun _ _ _ h => h) (Or.inl ⟨by rfl, ?_⟩) (by assumption) ?_
        rotate_left
        · (intro w hSw; (try dsimp only at hSw); go_simp; (try with_reducible rfl))
        (try simp only [Act.put, List.setIfInBounds_toArray, List.set_cons_zero, List.set_cons_succ])
        refine wpAnyH_done (by kernel_rfl) ?_ _
        have hxe : Wb.Ext w5 w55 := hxW.trans hx55
        have HT := Lib.hid (row_tbl (base := W1.heap.size) (e := 50) (n := N55) (l := L.take kn ++ (⟨(z.d.1, M), z.y, z.part⟩ : Pc) :: (⟨(M, z.d.2), z.y, z.part⟩ : Pc) :: L.drop (kn + 1)) pcc_len (by decide) (by
          have h1 := HO55.out
          have h3 : rowsOf pcc (L.take kn ++ (⟨(z.d.1, M), z.y, z.part⟩ : Pc) :: (⟨(M, z.d.2), z.y, z.part⟩ : Pc) :: L.drop (kn + 1)) = [] ++ rowsOf pcc (L.take kn) ++ rowsOf pcc [(⟨(z.d.1, M), z.y, z.part⟩ : Pc), (⟨(M, z.d.2), z.y, z.part⟩ : Pc)] ++ rowsOf pcc (L.drop (kn + 1)) := by simp [rowsOf]
          rw [h3]
          exact h1))
        have xp0 := hxe.keep xp0
        have xp1 := hxe.keep xp1
        have xp2 := hxe.keep xp2
        have xp3 := hxe.keep xp3
        have xp4 := hxe.keep xp4
        have xp5 := hxe.keep xp5
        have hx9 : Wb.Ext w w55 := hx5.trans hxe
        go_wp2_with fail
        go_fit (salary_any yr ix o f t pay _ (L.take kn ++ (⟨(z.d.1, M), z.y, z.part⟩ : Pc) :: (⟨(M, z.d.2), z.y, z.part⟩ : Pc) :: L.drop (kn + 1)) _ HI.out HS.out (HT.out.ext (by (repeat' (first | (with_reducible assumption) | (with_reducible exact Wb.Ext.refl _) | (with_reducible refine Wb.Ext.drew ?_) | (with_reducible refine Wb.Ext.drewN ?_ _) | (with_reducible refine Wb.Ext.alloc ?_ _) | (with_reducible refine Wb.Ext.trans ?_ (by assumption)))))) HBC.out (by simp; omega)); rintro e w99 ⟨rfl, hb99⟩
        rw [HY.out]
        have hx10 : Wb.Ext w w99 := hx9.trans (Wb.Ext.trans (by (repeat' (first | (with_reducible assumption) | (with_reducible exact Wb.Ext.refl _) | (with_reducible refine Wb.Ext.drew ?_) | (with_reducible refine Wb.Ext.drewN ?_ _) | (with_reducible refine Wb.Ext.alloc ?_ _) | (with_reducible refine Wb.Ext.trans ?_ (by assumption))))) hb99)
        clear hb99
        rcases HCUT.out with ⟨rfl, rfl⟩ | rfl <;> (go_wp2; go_ret; exact ⟨rfl, hx10⟩)
      exact AllReadyH.nil
  · have f1 : (eA == 0) = false := by simpa using hE
    have f2 : (eA != 0) = true := by simpa using hE
    clear hE
    go_wp2_with fail
    go_fit (salary_any yr ix o f t pay _ L _ HI.out HS.out (HL.out.1.ext (by (repeat' (first | (with_reducible assumption) | (with_reducible exact Wb.Ext.refl _) | (with_reducible refine Wb.Ext.drew ?_) | (with_reducible refine Wb.Ext.drewN ?_ _) | (with_reducible refine Wb.Ext.alloc ?_ _) | (with_reducible refine Wb.Ext.trans ?_ (by assumption)))))) (fun q hq => (HBL.out q hq).1) (by omega)); rintro e w4 ⟨rfl, hb4⟩
    rw [HX.out]
    have hn4 : Wb.Ext w3 w4 := Wb.Ext.trans (by (repeat' (first | (with_reducible assumption) | (with_reducible exact Wb.Ext.refl _) | (with_reducible refine Wb.Ext.drew ?_) | (with_reducible refine Wb.Ext.drewN ?_ _) | (with_reducible refine Wb.Ext.alloc ?_ _) | (with_reducible refine Wb.Ext.trans ?_ (by assumption))))) hb4
    have hx4 : Wb.Ext w w4 := hx3.trans hn4
    have xp0 := hn4.keep xp0
    have xp1 := hn4.keep xp1
    have xp2 := hn4.keep xp2
    have xp3 := hn4.keep xp3
    have xp4 := hn4.keep xp4
    have xp5 := hn4.keep xp5
    have zx := Wb.cell_size xp0
    clear hb4 hn4
    by_cases hex : ex = 0
    case neg =>
      have d2 : (ex == 0) = false := by simpa using hex
      have d3 : (ex != 0) = true := by simpa using hex
      clear hex
      go_wp2
      go_ret
      exact ⟨rfl, by (repeat' (first | (with_reducible assumption) | (with_reducible exact Wb.Ext.refl _) | (with_reducible refine Wb.Ext.drew ?_) | (with_reducible refine Wb.Ext.drewN ?_ _) | (with_reducible refine Wb.Ext.alloc ?_ _) | (with_reducible refine Wb.Ext.trans ?_ (by assumption))))⟩
    subst hex
    by_cases hl0 : L = []
    case pos =>
      subst hl0
      have hx0 : x = 0 := by have := HX.out; simp [salaryR, salR] at this; omega
      subst hx0
      go_wp2
      go_ret
      exact ⟨rfl, by (repeat' (first | (with_reducible assumption) | (with_reducible exact Wb.Ext.refl _) | (with_reducible refine Wb.Ext.drew ?_) | (with_reducible refine Wb.Ext.drewN ?_ _) | (with_reducible refine Wb.Ext.alloc ?_ _) | (with_reducible refine Wb.Ext.trans ?_ (by assumption))))⟩
    have hpos : 0 < L.length := List.length_pos_iff.2 hl0
    have dl : ((L.length : Int) == 0) = false := by simp; omega
    have dl2 : ¬ (L.length : Int) = 0 := by omega
    have dl3 : L.length ≠ 0 := by omega
    obtain ⟨kn, hkn, hKl⟩ : ∃ kn : Nat, Int.tmod wh (L.length : Int) = kn ∧ kn < L.length := by
      have h1 := Int.emod_nonneg wh dl2
      have h2 := Int.emod_lt_of_pos wh (show (0 : Int) < L.length by omega)
      exact ⟨(wh % L.length).toNat, by rw [Int.tmod_eq_emod_of_nonneg HW.out.1]; omega, by omega⟩
    have hKi : (kn : Int) < L.length := by omega
    have hkw : IntKind.i64.wrap ((kn : Int) + 1) = (kn : Int) + 1 := IntWalk.i64_in _ (by omega)
    obtain ⟨z, hz⟩ := Wb.get_ex hKl
    have hzm := List.mem_of_getElem? hz
    have hin : inP (f, t) z.d = true := by
      have h := HX.out
      unfold salaryR at h
      rw [if_neg (by omega)] at h
      exact ((sal_fine h).1.1 z hzm).1
    obtain ⟨j1, j2, j3, j4⟩ := inP_iff.1 hin
    simp only at j2 j3 j4
    obtain ⟨⟨⟨b1, b2⟩, b3, b4⟩, _, _⟩ := HBL.out z hzm
    have HD := Lib.hid (show L = L.take kn ++ z :: L.drop (kn + 1) by rw [← drop_at' hz, List.take_append_drop])
    obtain ⟨b, off, rfl, hcells⟩ := HL.out.1.opened hl0
    have c0 := hx4.keep (hcells kn z hz 0 _ rfl)
    have c1 := hx4.keep (hcells kn z hz 1 _ rfl)
    have c2 := hx4.keep (hcells kn z hz 2 _ rfl)
    have c3 := hx4.keep (hcells kn z hz 3 _ rfl)
    simp only [Nat.add_zero] at c0
    have zb : b < w.heap.size := Wb.cell_size (hcells kn z hz 0 _ rfl)
    obtain ⟨V1, V2, hs1, hc1, hs2, hc2⟩ := pcs_cut hcells hlc hKl
    have HC1 := Lib.hid (hc1.ext hx4)
    have HC2 := Lib.hid (hc2.ext hx4)
    clear hz hzm hin hcells hc1 hc2 hl0 hpos
    obtain ⟨dd, hdd⟩ : ∃ dd : Nat, z.d.2 - z.d.1 = (dd : Int) := ⟨(z.d.2 - z.d.1).toNat, by omega⟩
    by_cases h2 : dd < 2
    case pos =>
      have d2 : decide ((dd : Int) < 2) = true := by simp; omega
      go_wp2_with fail
      go_quiet (fail)
      go_wp2
      go_ret
      exact ⟨rfl, by (repeat' (first | (with_reducible assumption) | (with_reducible exact Wb.Ext.refl _) | (with_reducible refine Wb.Ext.drew ?_) | (with_reducible refine Wb.Ext.drewN ?_ _) | (with_reducible refine Wb.Ext.alloc ?_ _) | (with_reducible refine Wb.Ext.trans ?_ (by assumption))))⟩
    have d2 : decide ((dd : Int) < 2) = false := by simp; omega
    have dq : ¬ ((dd : Int) - 1 = 0) := by omega
    obtain ⟨Q, hQ, hQl⟩ : ∃ Q : Nat, Int.tmod at_ ((dd : Int) - 1) = Q ∧ Q < dd - 1 := by
      have h1 := Int.emod_nonneg at_ dq
      have h2 := Int.emod_lt_of_pos at_ (show (0 : Int) < (dd : Int) - 1 by omega)
      exact ⟨(at_ % ((dd : Int) - 1)).toNat, by rw [Int.tmod_eq_emod_of_nonneg HAT.out.1]; omega, by omega⟩
    obtain ⟨M, hM⟩ : ∃ M : Int, z.d.1 + (1 + (Q : Int)) = M := ⟨_, rfl⟩
    have hM1 : z.d.1 < M := by omega
    have hM2 : M < z.d.2 := by omega
    go_wp2_with fail
    go_quiet (fail)
    go_wp2_with fail
    go_quiet (fail)
    go_wp2_with fail
    obtain ⟨⟨y, hy⟩, hYY⟩ : ∃ q, salaryR ix o (f, t) (L.take kn ++ (⟨(z.d.1, M), z.y, z.part⟩ : Pc) :: (⟨(M, z.d.2), z.y, z.part⟩ : Pc) :: L.drop (kn + 1)) = q := ⟨_, rfl⟩
    have HCUT : Hid ((hy = 0 ∧ y = x) ∨ hy = 9) := Lib.hid (salary_cut (x := z) (m := M) hM1 hM2 (p := L.take kn) (q := L.drop (kn + 1)) (by rw [← HD.out]; exact hl20) (by rw [← HD.out]; exact HX.out) hYY)
    have HY := Lib.hid hYY
    have HBC : Hid (∀ q ∈ L.take kn ++ (⟨(z.d.1, M), z.y, z.part⟩ : Pc) :: (⟨(M, z.d.2), z.y, z.part⟩ : Pc) :: L.drop (kn + 1), Bd q.d) := Lib.hid (by
      intro q hq
      rcases List.mem_append.1 hq with hq | hq
      · exact (HBL.out q (List.mem_of_mem_take hq)).1
      · rcases List.mem_cons.1 hq with rfl | hq
        · simp [Bd]; omega
        · rcases List.mem_cons.1 hq with rfl | hq
          · simp [Bd]; omega
          · exact (HBL.out q (List.mem_of_mem_drop hq)).1)
    clear hYY
    refine Wb.wp_at fun W0 hW0 => ?_
    have hx0 : Wb.Ext w4 W0 := by rw [hW0]; (repeat' (first | (with_reducible assumption) | (with_reducible exact Wb.Ext.refl _) | (with_reducible refine Wb.Ext.drew ?_) | (with_reducible refine Wb.Ext.drewN ?_ _) | (with_reducible refine Wb.Ext.alloc ?_ _) | (with_reducible refine Wb.Ext.trans ?_ (by assumption))))
    have hx5 : Wb.Ext w W0 := hx4.trans hx0
    have c0 := hx0.keep c0
    have c1 := hx0.keep c1
    have c2 := hx0.keep c2
    have c3 := hx0.keep c3
    have xp0 := hx0.keep xp0
    have xp1 := hx0.keep xp1
    have xp2 := hx0.keep xp2
    have xp3 := hx0.keep xp3
    have xp4 := hx0.keep xp4
    have xp5 := hx0.keep xp5
    replace HC1 := Lib.hid (HC1.out.ext hx0)
    replace HC2 := Lib.hid (HC2.out.ext hx0)
    clear hW0 hx0
    go_cut [20, 21] (fun s20 s21 wx => ∃ B1 B2, s20 = .pointer (some ⟨B1, 0, none⟩) ∧ s21 = .pointer (some ⟨B2, 0, none⟩) ∧ Hid (PBox wx B1 z.d.1 z.d.2 z.y z.part) ∧ Hid (PBox wx B2 z.d.1 z.d.2 z.y z.part) ∧ B1 ≠ B2 ∧ W0.heap.size ≤ B1 ∧ W0.heap.size ≤ B2 ∧ Wb.Ext W0 wx)
    case first =>
      refine region_start (S := (fun w' => w'.cell? ⟨b, off + kn * 4, none⟩ = some (.int .i64 z.d.1) ∧ w'.cell? ⟨b, off + kn * 4 + 1, none⟩ = some (.int .i64 z.d.2) ∧ w'.cell? ⟨b, off + kn * 4 + 2, none⟩ = some (.int .i64 z.y) ∧ w'.cell? ⟨b, off + kn * 4 + 3, none⟩ = some (.int .i64 z.part))) (n := 12) (l := #[false, false, false, false, false, false, false, false, false, false, false, false]) (by kernel_rfl) ⟨c0, c1, c2, c3⟩ (by kernel_rfl) (by kernel_rfl) (fun hHeld => ?_)
      refine take_d (i := 0) (d := 109) (v := ?_) rfl rfl (by kernel_rfl) (by kernel_rfl) (by kernel_rfl) (fun _ _ _ h => h) (Or.inl ⟨by rfl, ?_⟩) (by assumption) ?_
      rotate_left
      · (intro w hSw; (try dsimp only at hSw); go_simp; (try with_reducible rfl))
      (try simp only [Act.put, List.setIfInBounds_toArray, List.set_cons_zero, List.set_cons_succ])
      refine take_d (i := 1) (d := 110) (v := ?_) rfl rfl (by kernel_rfl) (by kernel_rfl) (by kernel_rfl) (fun _ _ _ h => h) (Or.inl ⟨by rfl, ?_⟩) (by assumption) ?_
      rotate_left
      · (intro w hSw; (try dsimp only at hSw); go_simp; (try with_reducible rfl))
      (try simp only [Act.put, List.setIfInBounds_toArray, List.set_cons_zero, List.set_cons_succ])
      refine take_d (i := 2) (d := 111) (v := ?_) rfl rfl (by kernel_rfl) (by kernel_rfl) (by kernel_rfl) (fun _ _ _ h => h) (Or.inl ⟨by rfl, ?_⟩) (by assumption) ?_
      rotate_left
      · (intro w hSw; (try dsimp only at hSw); go_simp; (try with_reducible rfl))
      (try simp only [Act.put, List.setIfInBounds_toArray, List.set_cons_zero, List.set_cons_succ])
      refine take_d (i := 3) (d := 112) (v := ?_) rfl rfl (by kernel_rfl) (by kernel_rfl) (by kernel_rfl) (fun _ _ _ h => h) (Or.inl ⟨by rfl, ?_⟩) (by assumption) ?_
      rotate_left
      · (intro w hSw; (try dsimp only at hSw); go_simp; (try with_reducible rfl))
      (try simp only [Act.put, List.setIfInBounds_toArray, List.set_cons_zero, List.set_cons_succ])
      refine take_d (i := 4) (d := 113) (v := ?_) rfl rfl (by kernel_rfl) (by kernel_rfl) (by kernel_rfl) (fun _ _ _ h => h) (Or.inl ⟨by rfl, ?_⟩) (by assumption) ?_
      rotate_left
      · (intro w hSw; (try dsimp only at hSw); go_simp; (try with_reducible rfl))
      (try simp only [Act.put, List.setIfInBounds_toArray, List.set_cons_zero, List.set_cons_succ])
      refine take_d (i := 5) (d := 114) (v := ?_) rfl rfl (by kernel_rfl) (by kernel_rfl) (by kernel_rfl) (fun _ _ _ h => h) (Or.inl ⟨by rfl, ?_⟩) (by assumption) ?_
      rotate_left
      · (intro w hSw; (try dsimp only at hSw); go_simp; (try with_reducible rfl))
      (try simp only [Act.put, List.setIfInBounds_toArray, List.set_cons_zero, List.set_cons_succ])
      refine take_d (i := 6) (d := 115) (v := ?_) rfl rfl (by kernel_rfl) (by kernel_rfl) (by kernel_rfl) (fun _ _ _ h => h) (Or.inl ⟨by rfl, ?_⟩) (by assumption) ?_
      rotate_left
      · (intro w hSw; (try dsimp only at hSw); go_simp; (try with_reducible rfl))
      (try simp only [Act.put, List.setIfInBounds_toArray, List.set_cons_zero, List.set_cons_succ])
      refine take_d (i := 7) (d := 116) (v := ?_) rfl rfl (by kernel_rfl) (by kernel_rfl) (by kernel_rfl) (fun _ _ _ h => h) (Or.inl ⟨by rfl, ?_⟩) (by assumption) ?_
      rotate_left
      · (intro w hSw; (try dsimp only at hSw); go_simp; (try with_reducible rfl))
      (try simp only [Act.put, List.setIfInBounds_toArray, List.set_cons_zero, List.set_cons_succ])
      refine wpAnyH_ready (rs := [8, 9]) (by kernel_rfl) (by simp) ?_
      refine AllReadyH.cons (o := _) rfl (fun K hK => ?_) ?_
      · go_simp
        refine atK fun w31 hw31 => ?_
        have hx31 : Wb.Ext W0 w31 := by rw [hw31]; exact Wb.Ext.alloc (.drew (.refl _)) _
        have hb31 : Wb.Ext W0.drew w31 := by rw [hw31]; exact Wb.Ext.alloc (.refl _) _
        obtain ⟨B1, hB1⟩ : ∃ o, W0.heap.size = o := ⟨_, rfl⟩
        have PB1 := Lib.hid (show PBox w31 B1 0 0 0 0 by rw [hw31, ← hB1]; first | exact pbox_new _ _ | exact (pbox_new _ _).keep (.drew (.refl _)))
        have lB1 : W0.heap.size ≤ B1 := by rw [← hB1]; first | exact Nat.le_refl _ | exact (.drew (.refl _)).size
        (try rw [hB1])
        clear hw31 hb31 hB1
        refine hK.out _ _ ⟨hx31.keep c0, hx31.keep c1, hx31.keep c2, hx31.keep c3⟩ (fun hHeld => ?_)
        clear hK K
        (try simp only [List.setIfInBounds_toArray, List.set_cons_zero, List.set_cons_succ])
        refine wpAnyH_ready (rs := [9]) (by kernel_rfl) (by simp) ?_
        refine AllReadyH.cons (o := _) rfl (fun K hK => ?_) AllReadyH.nil
        go_simp
        refine atK fun w32 hw32 => ?_
        have hx32 : Wb.Ext W0 w32 := by rw [hw32]; exact Wb.Ext.alloc hx31 _
        have hb32 : Wb.Ext w31 w32 := by rw [hw32]; exact Wb.Ext.alloc (.refl _) _
        have neB1p := PB1.out.lt
        replace PB1 := Lib.hid (PB1.out.keep hb32)
        obtain ⟨B2, hB2⟩ : ∃ o, w31.heap.size = o := ⟨_, rfl⟩
        have PB2 := Lib.hid (show PBox w32 B2 0 0 0 0 by rw [hw32, ← hB2]; first | exact pbox_new _ _ | exact (pbox_new _ _).keep (.drew (.refl _)))
        have lB2 : W0.heap.size ≤ B2 := by rw [← hB2]; first | exact Nat.le_refl _ | exact hx31.size
        have nB1B2 : B1 ≠ B2 := by rw [← hB2]; exact Nat.ne_of_lt neB1p
        have nB2B1 : B2 ≠ B1 := Ne.symm nB1B2
        (try rw [hB2])
        clear hw32 hb32 hB2
        refine hK.out _ _ ⟨hx32.keep c0, hx32.keep c1, hx32.keep c2, hx32.keep c3⟩ (fun hHeld => ?_)
        clear hK K
        (try simp only [List.setIfInBounds_toArray, List.set_cons_zero, List.set_cons_succ])
        refine wpAnyH_ready (rs := [10]) (by kernel_rfl) (by simp) ?_
        refine AllReadyH.cons (o := _) rfl (fun K hK => ?_) AllReadyH.nil
        have q0 := PB1.out.c0
        have q1 := PB1.out.c1
        have q2 := PB1.out.c2
        have q3 := PB1.out.c3
        have qf := PB1.out.fz
        go_simp
        refine atK fun w33 hw33 => ?_
        obtain ⟨PN, po, pe⟩ := pbox_store hw33 PB1.out
        replace PB1 := Lib.hid PN
        have hx33 : Wb.Ext W0 w33 := pe W0 lB1 hx32
        replace PB2 := Lib.hid (po nB2B1 PB2.out)
        clear hw33 PN po pe q0 q1 q2 q3 qf
        refine hK.out _ _ ⟨hx33.keep c0, hx33.keep c1, hx33.keep c2, hx33.keep c3⟩ (fun hHeld => ?_)
        clear hK K
        (try simp only [List.setIfInBounds_toArray, List.set_cons_zero, List.set_cons_succ])
        refine wpAnyH_ready (rs := [11]) (by kernel_rfl) (by simp) ?_
        refine AllReadyH.cons (o := _) rfl (fun K hK => ?_) AllReadyH.nil
        have q0 := PB2.out.c0
        have q1 := PB2.out.c1
        have q2 := PB2.out.c2
        have q3 := PB2.out.c3
        have qf := PB2.out.fz
        go_simp
        refine atK fun w34 hw34 => ?_
        obtain ⟨PN, po, pe⟩ := pbox_store hw34 PB2.out
        replace PB2 := Lib.hid PN
        have hx34 : Wb.Ext W0 w34 := pe W0 lB2 hx33
        replace PB1 := Lib.hid (po nB1B2 PB1.out)
        clear hw34 PN po pe q0 q1 q2 q3 qf
        refine hK.out _ _ ⟨hx34.keep c0, hx34.keep c1, hx34.keep c2, hx34.keep c3⟩ (fun hHeld => ?_)
        clear hK K
        (try simp only [List.setIfInBounds_toArray, List.set_cons_zero, List.set_cons_succ])
        refine wpAnyH_done (by kernel_rfl) ?_ _
        have hxe : Wb.Ext W0 w34 := hx34
        go_wp2_with fail
        go_meet
        exact ⟨B1, B2, rfl, rfl, PB1, PB2, nB1B2, lB1, lB2, hxe⟩
      refine AllReadyH.cons (o := _) rfl (fun K hK => ?_) ?_
      · go_simp
        refine atK fun w31 hw31 => ?_
        have hx31 : Wb.Ext W0 w31 := by rw [hw31]; exact Wb.Ext.alloc (.drew (.refl _)) _
        have hb31 : Wb.Ext W0.drew w31 := by rw [hw31]; exact Wb.Ext.alloc (.refl _) _
        obtain ⟨B2, hB2⟩ : ∃ o, W0.heap.size = o := ⟨_, rfl⟩
        have PB2 := Lib.hid (show PBox w31 B2 0 0 0 0 by rw [hw31, ← hB2]; first | exact pbox_new _ _ | exact (pbox_new _ _).keep (.drew (.refl _)))
        have lB2 : W0.heap.size ≤ B2 := by rw [← hB2]; first | exact Nat.le_refl _ | exact (.drew (.refl _)).size
        (try rw [hB2])
        clear hw31 hb31 hB2
        refine hK.out _ _ ⟨hx31.keep c0, hx31.keep c1, hx31.keep c2, hx31.keep c3⟩ (fun hHeld => ?_)
        clear hK K
        (try simp only [List.setIfInBounds_toArray, List.set_cons_zero, List.set_cons_succ])
        refine wpAnyH_ready (rs := [8]) (by kernel_rfl) (by simp) ?_
        refine AllReadyH.cons (o := _) rfl (fun K hK => ?_) AllReadyH.nil
        go_simp
        refine atK fun w32 hw32 => ?_
        have hx32 : Wb.Ext W0 w32 := by rw [hw32]; exact Wb.Ext.alloc hx31 _
        have hb32 : Wb.Ext w31 w32 := by rw [hw32]; exact Wb.Ext.alloc (.refl _) _
        have neB2p := PB2.out.lt
        replace PB2 := Lib.hid (PB2.out.keep hb32)
        obtain ⟨B1, hB1⟩ : ∃ o, w31.heap.size = o := ⟨_, rfl⟩
        have PB1 := Lib.hid (show PBox w32 B1 0 0 0 0 by rw [hw32, ← hB1]; first | exact pbox_new _ _ | exact (pbox_new _ _).keep (.drew (.refl _)))
        have lB1 : W0.heap.size ≤ B1 := by rw [← hB1]; first | exact Nat.le_refl _ | exact hx31.size
        have nB2B1 : B2 ≠ B1 := by rw [← hB1]; exact Nat.ne_of_lt neB2p
        have nB1B2 : B1 ≠ B2 := Ne.symm nB2B1
        (try rw [hB1])
        clear hw32 hb32 hB1
        refine hK.out _ _ ⟨hx32.keep c0, hx32.keep c1, hx32.keep c2, hx32.keep c3⟩ (fun hHeld => ?_)
        clear hK K
        (try simp only [List.setIfInBounds_toArray, List.set_cons_zero, List.set_cons_succ])
        refine wpAnyH_ready (rs := [10]) (by kernel_rfl) (by simp) ?_
        refine AllReadyH.cons (o := _) rfl (fun K hK => ?_) AllReadyH.nil
        have q0 := PB1.out.c0
        have q1 := PB1.out.c1
        have q2 := PB1.out.c2
        have q3 := PB1.out.c3
        have qf := PB1.out.fz
        go_simp
        refine atK fun w33 hw33 => ?_
        obtain ⟨PN, po, pe⟩ := pbox_store hw33 PB1.out
        replace PB1 := Lib.hid PN
        have hx33 : Wb.Ext W0 w33 := pe W0 lB1 hx32
        replace PB2 := Lib.hid (po nB2B1 PB2.out)
        clear hw33 PN po pe q0 q1 q2 q3 qf
        refine hK.out _ _ ⟨hx33.keep c0, hx33.keep c1, hx33.keep c2, hx33.keep c3⟩ (fun hHeld => ?_)
        clear hK K
        (try simp only [List.setIfInBounds_toArray, List.set_cons_zero, List.set_cons_succ])
        refine wpAnyH_ready (rs := [11]) (by kernel_rfl) (by simp) ?_
        refine AllReadyH.cons (o := _) rfl (fun K hK => ?_) AllReadyH.nil
        have q0 := PB2.out.c0
        have q1 := PB2.out.c1
        have q2 := PB2.out.c2
        have q3 := PB2.out.c3
        have qf := PB2.out.fz
        go_simp
        refine atK fun w34 hw34 => ?_
        obtain ⟨PN, po, pe⟩ := pbox_store hw34 PB2.out
        replace PB2 := Lib.hid PN
        have hx34 : Wb.Ext W0 w34 := pe W0 lB2 hx33
        replace PB1 := Lib.hid (po nB1B2 PB1.out)
        clear hw34 PN po pe q0 q1 q2 q3 qf
        refine hK.out _ _ ⟨hx34.keep c0, hx34.keep c1, hx34.keep c2, hx34.keep c3⟩ (fun hHeld => ?_)
        clear hK K
        (try simp only [List.setIfInBounds_toArray, List.set_cons_zero, List.set_cons_succ])
        refine wpAnyH_done (by kernel_rfl) ?_ _
        have hxe : Wb.Ext W0 w34 := hx34
        go_wp2_with fail
        go_meet
        exact ⟨B1, B2, rfl, rfl, PB1, PB2, nB1B2, lB1, lB2, hxe⟩
      exact AllReadyH.nil
    case rest =>
      obtain ⟨B1, B2, rfl, rfl, PB1, PB2, hne, l1, l2, hxc⟩ := hcut
      obtain ⟨p0, p1, p2, p3, pf, pl⟩ := PB1.out
      obtain ⟨q0, q1, q2, q3, qf, ql⟩ := PB2.out
      obtain ⟨w5, hw5⟩ : ∃ q, q = W0 := ⟨_, rfl⟩
      have hne' : B2 ≠ B1 := Ne.symm hne
      go_upto_region 19 with (fail)
      refine Wb.wp_at fun W1 hW1 => ?_
      have hxW : Wb.Ext w5 W1 := by
        rw [hW1, hw5]
        first
          | exact Wb.ext_set (Wb.ext_set hxc l1 _) l2 _
          | exact Wb.ext_set (Wb.ext_set hxc l2 _) l1 _
          | exact Wb.ext_set (Wb.ext_set (.drew hxc) l1 _) l2 _
      have x0 : W1.cell? ⟨B1, 0, none⟩ = some (.int .i64 z.d.1) := by rw [hW1]; simp [go_sem, hne, hne', p0]
      have x1 : W1.cell? ⟨B1, 1, none⟩ = some (.int .i64 M) := by rw [hW1]; simp [go_sem, hne, hne', p1]
      have x2 : W1.cell? ⟨B1, 2, none⟩ = some (.int .i64 z.y) := by rw [hW1]; simp [go_sem, hne, hne', p2]
      have x3 : W1.cell? ⟨B1, 3, none⟩ = some (.int .i64 z.part) := by rw [hW1]; simp [go_sem, hne, hne', p3]
      have y0 : W1.cell? ⟨B2, 0, none⟩ = some (.int .i64 M) := by rw [hW1]; simp [go_sem, hne, hne', q0]
      have y1 : W1.cell? ⟨B2, 1, none⟩ = some (.int .i64 z.d.2) := by rw [hW1]; simp [go_sem, hne, hne', q1]
      have y2 : W1.cell? ⟨B2, 2, none⟩ = some (.int .i64 z.y) := by rw [hW1]; simp [go_sem, hne, hne', q2]
      have y3 : W1.cell? ⟨B2, 3, none⟩ = some (.int .i64 z.part) := by rw [hW1]; simp [go_sem, hne, hne', q3]
      subst hw5
      replace HC1 := Lib.hid (HC1.out.ext hxW)
      replace HC2 := Lib.hid (HC2.out.ext hxW)
      clear hW1 p0 p1 p2 p3 pf pl q0 q1 q2 q3 qf ql PB1 PB2
      refine region_start (S := (fun w' => w'.cell? ⟨B1, 0, none⟩ = some (.int .i64 z.d.1) ∧ w'.cell? ⟨B1, 1, none⟩ = some (.int .i64 M) ∧ w'.cell? ⟨B1, 2, none⟩ = some (.int .i64 z.y) ∧ w'.cell? ⟨B1, 3, none⟩ = some (.int .i64 z.part) ∧ w'.cell? ⟨B2, 0, none⟩ = some (.int .i64 M) ∧ w'.cell? ⟨B2, 1, none⟩ = some (.int .i64 z.d.2) ∧ w'.cell? ⟨B2, 2, none⟩ = some (.int .i64 z.y) ∧ w'.cell? ⟨B2, 3, none⟩ = some (.int .i64 z.part))) (n := 15) (l := #[false, false, false, false, false, false, false, false, false, false, false, false, false, false, false]) (by kernel_rfl) ⟨x0, x1, x2, x3, y0, y1, y2, y3⟩ (by kernel_rfl) (by kernel_rfl) (fun hHeld => ?_)
      refine take_d (i := 1) (d := 124) (v := ?_) rfl rfl (by kernel_rfl) (by kernel_rfl) (by kernel_rfl) (fun _ _ _ h => h) (Or.inl ⟨by rfl, ?_⟩) (by assumption) ?_
      rotate_left
      · (intro w hSw; (try dsimp only at hSw); go_simp; (try with_reducible rfl))
      (try simp only [Act.put, List.setIfInBounds_toArray, List.set_cons_zero, List.set_cons_succ])
      refine take_d (i := 2) (d := 125) (v := ?_) rfl rfl (by kernel_rfl) (by kernel_rfl) (by kernel_rfl) (fun _ _ _ h => h) (Or.inl ⟨by rfl, ?_⟩) (by assumption) ?_
      rotate_left
      · (intro w hSw; (try dsimp only at hSw); go_simp; (try with_reducible rfl))
      (try simp only [Act.put, List.setIfInBounds_toArray, List.set_cons_zero, List.set_cons_succ])
      refine take_d (i := 3) (d := 126) (v := ?_) rfl rfl (by kernel_rfl) (by kernel_rfl) (by kernel_rfl) (fun _ _ _ h => h) (Or.inl ⟨by rfl, ?_⟩) (by assumption) ?_
      rotate_left
      · (intro w hSw; (try dsimp only at hSw); go_simp; (try with_reducible rfl))
      (try simp only [Act.put, List.setIfInBounds_toArray, List.set_cons_zero, List.set_cons_succ])
      refine take_d (i := 5) (d := 128) (v := ?_) rfl rfl (by kernel_rfl) (by kernel_rfl) (by kernel_rfl) (fun _ _ _ h => h) (Or.inl ⟨by rfl, ?_⟩) (by assumption) ?_
      rotate_left
      · (intro w hSw; (try dsimp only at hSw); go_simp; (try with_reducible rfl))
      (try simp only [Act.put, List.setIfInBounds_toArray, List.set_cons_zero, List.set_cons_succ])
      refine take_d (i := 6) (d := 129) (v := ?_) rfl rfl (by kernel_rfl) (by kernel_rfl) (by kernel_rfl) (fun _ _ _ h => h) (Or.inl ⟨by rfl, ?_⟩) (by assumption) ?_
      rotate_left
      · (intro w hSw; (try dsimp only at hSw); go_simp; (try with_reducible rfl))
      (try simp only [Act.put, List.setIfInBounds_toArray, List.set_cons_zero, List.set_cons_succ])
      refine take_d (i := 9) (d := 132) (v := ?_) rfl rfl (by kernel_rfl) (by kernel_rfl) (by kernel_rfl) (fun _ _ _ h => h) (Or.inl ⟨by rfl, ?_⟩) (by assumption) ?_
      rotate_left
      · (intro w hSw; (try dsimp only at hSw); go_simp; (try with_reducible rfl))
      (try simp only [Act.put, List.setIfInBounds_toArray, List.set_cons_zero, List.set_cons_succ])
      refine take_d (i := 10) (d := 133) (v := ?_) rfl rfl (by kernel_rfl) (by kernel_rfl) (by kernel_rfl) (fun _ _ _ h => h) (Or.inl ⟨by rfl, ?_⟩) (by assumption) ?_
      rotate_left
      · (intro w hSw; (try dsimp only at hSw); go_simp; (try with_reducible rfl))
      (try simp only [Act.put, List.setIfInBounds_toArray, List.set_cons_zero, List.set_cons_succ])
      refine take_d (i := 11) (d := 134) (v := ?_) rfl rfl (by kernel_rfl) (by kernel_rfl) (by kernel_rfl) (fun _ _ _ h => h) (Or.inl ⟨by rfl, ?_⟩) (by assumption) ?_
      rotate_left
      · (intro w hSw; (try dsimp only at hSw); go_simp; (try with_reducible rfl))
      (try simp only [Act.put, List.setIfInBounds_toArray, List.set_cons_zero, List.set_cons_succ])
      refine take_d (i := 12) (d := 135) (v := ?_) rfl rfl (by kernel_rfl) (by kernel_rfl) (by kernel_rfl) (fun _ _ _ h => h) (Or.inl ⟨by rfl, ?_⟩) (by assumption) ?_
      rotate_left
      · (intro w hSw; (try dsimp only at hSw); go_simp; (try with_reducible rfl))
      (try simp only [Act.put, List.setIfInBounds_toArray, List.set_cons_zero, List.set_cons_succ])
      refine wpAnyH_ready (rs := [0, 7]) (by kernel_rfl) (by simp) ?_
      refine AllReadyH.cons (o := _) rfl (fun K hK => ?_) ?_
      · go_simp
        refine atK fun w51 hw51 => ?_
        have hx51 : Wb.Ext W1 w51 := by rw [hw51]; exact Wb.Ext.alloc (.drew (.refl _)) _
        obtain ⟨gr, gre⟩ : ∃ g, W1.heap.size = g := ⟨_, rfl⟩
        have grh : gr < w51.heap.size := by rw [hw51, ← gre]; simp
        have HO51 := Lib.hid (show w51.ownsRow W1.heap.size 50 4 (.slice (some ⟨gr, 0, none⟩) 0 0) 0 [] by rw [hw51, ← gre]; exact own_empty (w := W1) (by first | exact Nat.le_refl _ | exact (.drew (.refl _)).size))
        (try rw [gre])
        clear hw51 gre
        refine hK.out _ _ ⟨hx51.keep x0, hx51.keep x1, hx51.keep x2, hx51.keep x3, hx51.keep y0, hx51.keep y1, hx51.keep y2, hx51.keep y3⟩ (fun hHeld => ?_)
        clear hK K
        (try simp only [List.setIfInBounds_toArray, List.set_cons_zero, List.set_cons_succ])
        refine wpAnyH_ready (rs := [4, 7]) (by kernel_rfl) (by simp) ?_
        refine AllReadyH.cons (o := _) rfl (fun K hK => ?_) ?_
        · obtain ⟨hi, hz0, hz1, hz2⟩ := HIN.out
          refine Wb.step_append_row (by rfl) _ _ _ (by rfl) W1.heap.size 50 i0 (.agg #[.int .i64 0, .int .i64 0, .int .i64 0, .int .i64 0]) 4 32 Try.underlying28 hi hz0 hz1 hz2 (by rfl) (by decide) _ (0) ([]) (by rfl) (HO51.out) _ (by rfl) (kn) (rowsOf pcc (L.take kn)) (HC1.out.ext hx51) (rpc_one _) (by unfold maxLen; omega) (by omega) (Below.size (show Wb.Ext W1 w51 from hx51)) ?_
          intro v52 w52 ho52 hg52 hat52
          obtain ⟨N52, hN52⟩ : ∃ n, n = 0 + (kn) := ⟨_, rfl⟩
          rw [← hN52] at ho52
          have HN52 := Lib.hid hN52
          have hNb52 : N52 ≤ 0 + (kn) := Nat.le_of_eq hN52
          clear hN52
          have HO52 := Lib.hid ho52
          have hx52 : Wb.Ext W1 w52 := Wb.Ext.grown hx51 hg52 (fun q hq => (HO51.out.lt q hq).1)
          obtain ⟨ra52, rc52, rfl⟩ := row_shape ho52
          replace grh : gr < w52.heap.size := Nat.lt_of_lt_of_le grh hg52.size
          clear hi hz0 hz1 hz2 ho52 hg52 hat52
          refine hK.out _ _ ⟨hx52.keep x0, hx52.keep x1, hx52.keep x2, hx52.keep x3, hx52.keep y0, hx52.keep y1, hx52.keep y2, hx52.keep y3⟩ (fun hHeld => ?_)
          clear hK K
          (try simp only [List.setIfInBounds_toArray, List.set_cons_zero, List.set_cons_succ])
          refine wpAnyH_ready (rs := [7]) (by kernel_rfl) (by simp) ?_
          refine AllReadyH.cons (o := _) rfl (fun K hK => ?_) AllReadyH.nil
          go_simp
          refine atK fun w53 hw53 => ?_
          have hx53 : Wb.Ext W1 w53 := by rw [hw53]; exact Wb.Ext.alloc hx52 _
          have HO53r := Lib.hid (show w53.ownsRow W1.heap.size 50 4 _ _ _ by rw [hw53]; exact HO52.out.alloc _)
          have grp := grh
          replace grh : gr < w53.heap.size := Nat.lt_of_lt_of_le grh (by rw [hw53]; simp)
          obtain ⟨gx, gxe⟩ : ∃ g, w52.heap.size = g := ⟨_, rfl⟩
          have gxh : gx < w53.heap.size := by rw [hw53, ← gxe]; simp
          have negrgx : gr ≠ gx := by have := grp; omega
          have negxgr : gx ≠ gr := Ne.symm negrgx
          have HLx := Lib.hid (show Wb.SrcRow w53 4 (.slice (some ⟨gx, 0, none⟩) 2 2) 2 (rowsOf pcc [(⟨(z.d.1, M), z.y, z.part⟩ : Pc), (⟨(M, z.d.2), z.y, z.part⟩ : Pc)]) by rw [hw53, ← gxe]; exact src_lits w52 _ rfl [(⟨(z.d.1, M), z.y, z.part⟩ : Pc), (⟨(M, z.d.2), z.y, z.part⟩ : Pc)] _ _)
          (try rw [gxe])
          clear hw53 gxe
          refine hK.out _ _ ⟨hx53.keep x0, hx53.keep x1, hx53.keep x2, hx53.keep x3, hx53.keep y0, hx53.keep y1, hx53.keep y2, hx53.keep y3⟩ (fun hHeld => ?_)
          clear hK K
          (try simp only [List.setIfInBounds_toArray, List.set_cons_zero, List.set_cons_succ])
          refine wpAnyH_ready (rs := [8]) (by kernel_rfl) (by simp) ?_
          refine AllReadyH.cons (o := _) rfl (fun K hK => ?_) AllReadyH.nil
          obtain ⟨hi, hz0, hz1, hz2⟩ := HIN.out
          refine Wb.step_append_row (by rfl) _ _ _ (by rfl) W1.heap.size 50 i0 (.agg #[.int .i64 0, .int .i64 0, .int .i64 0, .int .i64 0]) 4 32 Try.underlying28 hi hz0 hz1 hz2 (by rfl) (by decide) _ (N52) ([] ++ rowsOf pcc (L.take kn)) (by rfl) (HO53r.out) _ (by rfl) (2) (rowsOf pcc [(⟨(z.d.1, M), z.y, z.part⟩ : Pc), (⟨(M, z.d.2), z.y, z.part⟩ : Pc)]) (HLx.out) (rpc_one _) (by unfold maxLen; omega) (by omega) (Below.size (show Wb.Ext W1 w53 from hx53)) ?_
          intro v54 w54 ho54 hg54 hat54
          obtain ⟨N54, hN54⟩ : ∃ n, n = N52 + (2) := ⟨_, rfl⟩
          rw [← hN54] at ho54
          have HN54 := Lib.hid hN54
          have hNb54 : N54 ≤ N52 + (2) := Nat.le_of_eq hN54
          clear hN54
          have HO54 := Lib.hid ho54
          have hx54 : Wb.Ext W1 w54 := Wb.Ext.grown hx53 hg54 (fun q hq => (HO53r.out.lt q hq).1)
          obtain ⟨ra54, rc54, rfl⟩ := row_shape ho54
          replace grh : gr < w54.heap.size := Nat.lt_of_lt_of_le grh hg54.size
          replace gxh : gx < w54.heap.size := Nat.lt_of_lt_of_le gxh hg54.size
          clear hi hz0 hz1 hz2 ho54 hg54 hat54
          refine hK.out _ _ ⟨hx54.keep x0, hx54.keep x1, hx54.keep x2, hx54.keep x3, hx54.keep y0, hx54.keep y1, hx54.keep y2, hx54.keep y3⟩ (fun hHeld => ?_)
          clear hK K
          (try simp only [List.setIfInBounds_toArray, List.set_cons_zero, List.set_cons_succ])
          refine wpAnyH_ready (rs := [13]) (by kernel_rfl) (by simp) ?_
          refine AllReadyH.cons (o := _) rfl (fun K hK => ?_) AllReadyH.nil
          obtain ⟨hi, hz0, hz1, hz2⟩ := HIN.out
          refine Wb.step_append_row (by rfl) _ _ _ (by rfl) W1.heap.size 50 i0 (.agg #[.int .i64 0, .int .i64 0, .int .i64 0, .int .i64 0]) 4 32 Try.underlying28 hi hz0 hz1 hz2 (by rfl) (by decide) _ (N54) ([] ++ rowsOf pcc (L.take kn) ++ rowsOf pcc [(⟨(z.d.1, M), z.y, z.part⟩ : Pc), (⟨(M, z.d.2), z.y, z.part⟩ : Pc)]) (by rfl) (HO54.out) _ (by rfl) (L.length - (kn + 1)) (rowsOf pcc (L.drop (kn + 1))) (HC2.out.ext hx54) (rpc_one _) (by unfold maxLen; omega) (by omega) (Below.size (show Wb.Ext W1 w54 from hx54)) ?_
          intro v55 w55 ho55 hg55 hat55
          obtain ⟨N55, hN55⟩ : ∃ n, n = N54 + (L.length - (kn + 1)) := ⟨_, rfl⟩
          rw [← hN55] at ho55
          have HN55 := Lib.hid hN55
          have hNb55 : N55 ≤ N54 + (L.length - (kn + 1)) := Nat.le_of_eq hN55
          clear hN55
          have HO55 := Lib.hid ho55
          have hx55 : Wb.Ext W1 w55 := Wb.Ext.grown hx54 hg55 (fun q hq => (HO54.out.lt q hq).1)
          obtain ⟨ra55, rc55, rfl⟩ := row_shape ho55
          replace grh : gr < w55.heap.size := Nat.lt_of_lt_of_le grh hg55.size
          replace gxh : gx < w55.heap.size := Nat.lt_of_lt_of_le gxh hg55.size
          clear hi hz0 hz1 hz2 ho55 hg55 hat55
          refine hK.out _ _ ⟨hx55.keep x0, hx55.keep x1, hx55.keep x2, hx55.keep x3, hx55.keep y0, hx55.keep y1, hx55.keep y2, hx55.keep y3⟩ (fun hHeld => ?_)
          clear hK K
          (try simp only [List.setIfInBounds_toArray, List.set_cons_zero, List.set_cons_succ])
          refine take_d (i := 14) (d := 22) (v := ?_) rfl rfl (by kernel_rfl) (by kernel_rfl) (by kernel_rfl) (fun _ _ _ h => h) (Or.inl ⟨by rfl, ?_⟩) (by assumption) ?_
          rotate_left
          · (intro w hSw; (try dsimp only at hSw); go_simp; (try with_reducible rfl))
          (try simp only [Act.put, List.setIfInBounds_toArray, List.set_cons_zero, List.set_cons_succ])
          refine wpAnyH_done (by kernel_rfl) ?_ _
          have hxe : Wb.Ext w5 w55 := hxW.trans hx55
          have HT := Lib.hid (row_tbl (base := W1.heap.size) (e := 50) (n := N55) (l := L.take kn ++ (⟨(z.d.1, M), z.y, z.part⟩ : Pc) :: (⟨(M, z.d.2), z.y, z.part⟩ : Pc) :: L.drop (kn + 1)) pcc_len (by decide) (by
            have h1 := HO55.out
            have h3 : rowsOf pcc (L.take kn ++ (⟨(z.d.1, M), z.y, z.part⟩ : Pc) :: (⟨(M, z.d.2), z.y, z.part⟩ : Pc) :: L.drop (kn + 1)) = [] ++ rowsOf pcc (L.take kn) ++ rowsOf pcc [(⟨(z.d.1, M), z.y, z.part⟩ : Pc), (⟨(M, z.d.2), z.y, z.part⟩ : Pc)] ++ rowsOf pcc (L.drop (kn + 1)) := by simp [rowsOf]
            rw [h3]
            exact h1))
          have xp0 := hxe.keep xp0
          have xp1 := hxe.keep xp1
          have xp2 := hxe.keep xp2
          have xp3 := hxe.keep xp3
          have xp4 := hxe.keep xp4
          have xp5 := hxe.keep xp5
          have hx9 : Wb.Ext w w55 := hx5.trans hxe
          go_wp2_with fail
          go_fit (salary_any yr ix o f t pay _ (L.take kn ++ (⟨(z.d.1, M), z.y, z.part⟩ : Pc) :: (⟨(M, z.d.2), z.y, z.part⟩ : Pc) :: L.drop (kn + 1)) _ HI.out HS.out (HT.out.ext (by (repeat' (first | (with_reducible assumption) | (with_reducible exact Wb.Ext.refl _) | (with_reducible refine Wb.Ext.drew ?_) | (with_reducible refine Wb.Ext.drewN ?_ _) | (with_reducible refine Wb.Ext.alloc ?_ _) | (with_reducible refine Wb.Ext.trans ?_ (by assumption)))))) HBC.out (by simp; omega)); rintro e w99 ⟨rfl, hb99⟩
          rw [HY.out]
          have hx10 : Wb.Ext w w99 := hx9.trans (Wb.Ext.trans (by (repeat' (first | (with_reducible assumption) | (with_reducible exact Wb.Ext.refl _) | (with_reducible refine Wb.Ext.drew ?_) | (with_reducible refine Wb.Ext.drewN ?_ _) | (with_reducible refine Wb.Ext.alloc ?_ _) | (with_reducible refine Wb.Ext.trans ?_ (by assumption))))) hb99)
          clear hb99
          rcases HCUT.out with ⟨rfl, rfl⟩ | rfl <;> (go_wp2; go_ret; exact ⟨rfl, hx10⟩)
        refine AllReadyH.cons (o := _) rfl (fun K hK => ?_) ?_
        · go_simp
          refine atK fun w52 hw52 => ?_
          have hx52 : Wb.Ext W1 w52 := by rw [hw52]; exact Wb.Ext.alloc hx51 _
          have HO52r := Lib.hid (show w52.ownsRow W1.heap.size 50 4 _ _ _ by rw [hw52]; exact HO51.out.alloc _)
          have grp := grh
          replace grh : gr < w52.heap.size := Nat.lt_of_lt_of_le grh (by rw [hw52]; simp)
          obtain ⟨gx, gxe⟩ : ∃ g, w51.heap.size = g := ⟨_, rfl⟩
          have gxh : gx < w52.heap.size := by rw [hw52, ← gxe]; simp
          have negrgx : gr ≠ gx := by have := grp; omega
          have negxgr : gx ≠ gr := Ne.symm negrgx
          have HLx := Lib.hid (show Wb.SrcRow w52 4 (.slice (some ⟨gx, 0, none⟩) 2 2) 2 (rowsOf pcc [(⟨(z.d.1, M), z.y, z.part⟩ : Pc), (⟨(M, z.d.2), z.y, z.part⟩ : Pc)]) by rw [hw52, ← gxe]; exact src_lits w51 _ rfl [(⟨(z.d.1, M), z.y, z.part⟩ : Pc), (⟨(M, z.d.2), z.y, z.part⟩ : Pc)] _ _)
          (try rw [gxe])
          clear hw52 gxe
          refine hK.out _ _ ⟨hx52.keep x0, hx52.keep x1, hx52.keep x2, hx52.keep x3, hx52.keep y0, hx52.keep y1, hx52.keep y2, hx52.keep y3⟩ (fun hHeld => ?_)
          clear hK K
          (try simp only [List.setIfInBounds_toArray, List.set_cons_zero, List.set_cons_succ])
          refine wpAnyH_ready (rs := [4]) (by kernel_rfl) (by simp) ?_
          refine AllReadyH.cons (o := _) rfl (fun K hK => ?_) AllReadyH.nil
          obtain ⟨hi, hz0, hz1, hz2⟩ := HIN.out
          refine Wb.step_append_row (by rfl) _ _ _ (by rfl) W1.heap.size 50 i0 (.agg #[.int .i64 0, .int .i64 0, .int .i64 0, .int .i64 0]) 4 32 Try.underlying28 hi hz0 hz1 hz2 (by rfl) (by decide) _ (0) ([]) (by rfl) (HO52r.out) _ (by rfl) (kn) (rowsOf pcc (L.take kn)) (HC1.out.ext hx52) (rpc_one _) (by unfold maxLen; omega) (by omega) (Below.size (show Wb.Ext W1 w52 from hx52)) ?_
          intro v53 w53 ho53 hg53 hat53
          obtain ⟨N53, hN53⟩ : ∃ n, n = 0 + (kn) := ⟨_, rfl⟩
          rw [← hN53] at ho53
          have HN53 := Lib.hid hN53
          have hNb53 : N53 ≤ 0 + (kn) := Nat.le_of_eq hN53
          clear hN53
          have HO53 := Lib.hid ho53
          have hx53 : Wb.Ext W1 w53 := Wb.Ext.grown hx52 hg53 (fun q hq => (HO52r.out.lt q hq).1)
          replace HLx := Lib.hid (src_grown HLx.out hg53 (fun a m c e => by cases e; intro hq; injection hq with hq; exact negrgx hq))
          obtain ⟨ra53, rc53, rfl⟩ := row_shape ho53
          replace grh : gr < w53.heap.size := Nat.lt_of_lt_of_le grh hg53.size
          replace gxh : gx < w53.heap.size := Nat.lt_of_lt_of_le gxh hg53.size
          clear hi hz0 hz1 hz2 ho53 hg53 hat53
          refine hK.out _ _ ⟨hx53.keep x0, hx53.keep x1, hx53.keep x2, hx53.keep x3, hx53.keep y0, hx53.keep y1, hx53.keep y2, hx53.keep y3⟩ (fun hHeld => ?_)
          clear hK K
          (try simp only [List.setIfInBounds_toArray, List.set_cons_zero, List.set_cons_succ])
          refine wpAnyH_ready (rs := [8]) (by kernel_rfl) (by simp) ?_
          refine AllReadyH.cons (o := _) rfl (fun K hK => ?_) AllReadyH.nil
          obtain ⟨hi, hz0, hz1, hz2⟩ := HIN.out
          refine Wb.step_append_row (by rfl) _ _ _ (by rfl) W1.heap.size 50 i0 (.agg #[.int .i64 0, .int .i64 0, .int .i64 0, .int .i64 0]) 4 32 Try.underlying28 hi hz0 hz1 hz2 (by rfl) (by decide) _ (N53) ([] ++ rowsOf pcc (L.take kn)) (by rfl) (HO53.out) _ (by rfl) (2) (rowsOf pcc [(⟨(z.d.1, M), z.y, z.part⟩ : Pc), (⟨(M, z.d.2), z.y, z.part⟩ : Pc)]) (HLx.out) (rpc_one _) (by unfold maxLen; omega) (by omega) (Below.size (show Wb.Ext W1 w53 from hx53)) ?_
          intro v54 w54 ho54 hg54 hat54
          obtain ⟨N54, hN54⟩ : ∃ n, n = N53 + (2) := ⟨_, rfl⟩
          rw [← hN54] at ho54
          have HN54 := Lib.hid hN54
          have hNb54 : N54 ≤ N53 + (2) := Nat.le_of_eq hN54
          clear hN54
          have HO54 := Lib.hid ho54
          have hx54 : Wb.Ext W1 w54 := Wb.Ext.grown hx53 hg54 (fun q hq => (HO53.out.lt q hq).1)
          obtain ⟨ra54, rc54, rfl⟩ := row_shape ho54
          replace grh : gr < w54.heap.size := Nat.lt_of_lt_of_le grh hg54.size
          replace gxh : gx < w54.heap.size := Nat.lt_of_lt_of_le gxh hg54.size
          clear hi hz0 hz1 hz2 ho54 hg54 hat54
          refine hK.out _ _ ⟨hx54.keep x0, hx54.keep x1, hx54.keep x2, hx54.keep x3, hx54.keep y0, hx54.keep y1, hx54.keep y2, hx54.keep y3⟩ (fun hHeld => ?_)
          clear hK K
          (try simp only [List.setIfInBounds_toArray, List.set_cons_zero, List.set_cons_succ])
          refine wpAnyH_ready (rs := [13]) (by kernel_rfl) (by simp) ?_
          refine AllReadyH.cons (o := _) rfl (fun K hK => ?_) AllReadyH.nil
          obtain ⟨hi, hz0, hz1, hz2⟩ := HIN.out
          refine Wb.step_append_row (by rfl) _ _ _ (by rfl) W1.heap.size 50 i0 (.agg #[.int .i64 0, .int .i64 0, .int .i64 0, .int .i64 0]) 4 32 Try.underlying28 hi hz0 hz1 hz2 (by rfl) (by decide) _ (N54) ([] ++ rowsOf pcc (L.take kn) ++ rowsOf pcc [(⟨(z.d.1, M), z.y, z.part⟩ : Pc), (⟨(M, z.d.2), z.y, z.part⟩ : Pc)]) (by rfl) (HO54.out) _ (by rfl) (L.length - (kn + 1)) (rowsOf pcc (L.drop (kn + 1))) (HC2.out.ext hx54) (rpc_one _) (by unfold maxLen; omega) (by omega) (Below.size (show Wb.Ext W1 w54 from hx54)) ?_
          intro v55 w55 ho55 hg55 hat55
          obtain ⟨N55, hN55⟩ : ∃ n, n = N54 + (L.length - (kn + 1)) := ⟨_, rfl⟩
          rw [← hN55] at ho55
          have HN55 := Lib.hid hN55
          have hNb55 : N55 ≤ N54 + (L.length - (kn + 1)) := Nat.le_of_eq hN55
          clear hN55
          have HO55 := Lib.hid ho55
          have hx55 : Wb.Ext W1 w55 := Wb.Ext.grown hx54 hg55 (fun q hq => (HO54.out.lt q hq).1)
          obtain ⟨ra55, rc55, rfl⟩ := row_shape ho55
          replace grh : gr < w55.heap.size := Nat.lt_of_lt_of_le grh hg55.size
          replace gxh : gx < w55.heap.size := Nat.lt_of_lt_of_le gxh hg55.size
          clear hi hz0 hz1 hz2 ho55 hg55 hat55
          refine hK.out _ _ ⟨hx55.keep x0, hx55.keep x1, hx55.keep x2, hx55.keep x3, hx55.keep y0, hx55.keep y1, hx55.keep y2, hx55.keep y3⟩ (fun hHeld => ?_)
          clear hK K
          (try simp only [List.setIfInBounds_toArray, List.set_cons_zero, List.set_cons_succ])
          refine take_d (i := 14) (d := 22) (v := ?_) rfl rfl (by kernel_rfl) (by kernel_rfl) (by kernel_rfl) (fun _ _ _ h => h) (Or.inl ⟨by rfl, ?_⟩) (by assumption) ?_
          rotate_left
          · (intro w hSw; (try dsimp only at hSw); go_simp; (try with_reducible rfl))
          (try simp only [Act.put, List.setIfInBounds_toArray, List.set_cons_zero, List.set_cons_succ])
          refine wpAnyH_done (by kernel_rfl) ?_ _
          have hxe : Wb.Ext w5 w55 := hxW.trans hx55
          have HT := Lib.hid (row_tbl (base := W1.heap.size) (e := 50) (n := N55) (l := L.take kn ++ (⟨(z.d.1, M), z.y, z.part⟩ : Pc) :: (⟨(M, z.d.2), z.y, z.part⟩ : Pc) :: L.drop (kn + 1)) pcc_len (by decide) (by
            have h1 := HO55.out
            have h3 : rowsOf pcc (L.take kn ++ (⟨(z.d.1, M), z.y, z.part⟩ : Pc) :: (⟨(M, z.d.2), z.y, z.part⟩ : Pc) :: L.drop (kn + 1)) = [] ++ rowsOf pcc (L.take kn) ++ rowsOf pcc [(⟨(z.d.1, M), z.y, z.part⟩ : Pc), (⟨(M, z.d.2), z.y, z.part⟩ : Pc)] ++ rowsOf pcc (L.drop (kn + 1)) := by simp [rowsOf]
            rw [h3]
            exact h1))
          have xp0 := hxe.keep xp0
          have xp1 := hxe.keep xp1
          have xp2 := hxe.keep xp2
          have xp3 := hxe.keep xp3
          have xp4 := hxe.keep xp4
          have xp5 := hxe.keep xp5
          have hx9 : Wb.Ext w w55 := hx5.trans hxe
          go_wp2_with fail
          go_fit (salary_any yr ix o f t pay _ (L.take kn ++ (⟨(z.d.1, M), z.y, z.part⟩ : Pc) :: (⟨(M, z.d.2), z.y, z.part⟩ : Pc) :: L.drop (kn + 1)) _ HI.out HS.out (HT.out.ext (by (repeat' (first | (with_reducible assumption) | (with_reducible exact Wb.Ext.refl _) | (with_reducible refine Wb.Ext.drew ?_) | (with_reducible refine Wb.Ext.drewN ?_ _) | (with_reducible refine Wb.Ext.alloc ?_ _) | (with_reducible refine Wb.Ext.trans ?_ (by assumption)))))) HBC.out (by simp; omega)); rintro e w99 ⟨rfl, hb99⟩
          rw [HY.out]
          have hx10 : Wb.Ext w w99 := hx9.trans (Wb.Ext.trans (by (repeat' (first | (with_reducible assumption) | (with_reducible exact Wb.Ext.refl _) | (with_reducible refine Wb.Ext.drew ?_) | (with_reducible refine Wb.Ext.drewN ?_ _) | (with_reducible refine Wb.Ext.alloc ?_ _) | (with_reducible refine Wb.Ext.trans ?_ (by assumption))))) hb99)
          clear hb99
          rcases HCUT.out with ⟨rfl, rfl⟩ | rfl <;> (go_wp2; go_ret; exact ⟨rfl, hx10⟩)
        exact AllReadyH.nil
      refine AllReadyH.cons (o := _) rfl (fun K hK => ?_) ?_
      · go_simp
        refine atK fun w51 hw51 => ?_
        have hx51 : Wb.Ext W1 w51 := by rw [hw51]; exact Wb.Ext.alloc (.drew (.refl _)) _
        obtain ⟨gx, gxe⟩ : ∃ g, W1.heap.size = g := ⟨_, rfl⟩
        have gxh : gx < w51.heap.size := by rw [hw51, ← gxe]; simp
        have HLx := Lib.hid (show Wb.SrcRow w51 4 (.slice (some ⟨gx, 0, none⟩) 2 2) 2 (rowsOf pcc [(⟨(z.d.1, M), z.y, z.part⟩ : Pc), (⟨(M, z.d.2), z.y, z.part⟩ : Pc)]) by rw [hw51, ← gxe]; exact src_lits W1 _ rfl [(⟨(z.d.1, M), z.y, z.part⟩ : Pc), (⟨(M, z.d.2), z.y, z.part⟩ : Pc)] _ _)
        (try rw [gxe])
        clear hw51 gxe
        refine hK.out _ _ ⟨hx51.keep x0, hx51.keep x1, hx51.keep x2, hx51.keep x3, hx51.keep y0, hx51.keep y1, hx51.keep y2, hx51.keep y3⟩ (fun hHeld => ?_)
        clear hK K
        (try simp only [List.setIfInBounds_toArray, List.set_cons_zero, List.set_cons_succ])
        refine wpAnyH_ready (rs := [0]) (by kernel_rfl) (by simp) ?_
        refine AllReadyH.cons (o := _) rfl (fun K hK => ?_) AllReadyH.nil
        go_simp
        refine atK fun w52 hw52 => ?_
        have hx52 : Wb.Ext W1 w52 := by rw [hw52]; exact Wb.Ext.alloc hx51 _
        replace HLx := Lib.hid (HLx.out.ext (show Wb.Ext w51 w52 by rw [hw52]; exact Wb.Ext.alloc (.refl _) _))
        have gxp := gxh
        replace gxh : gx < w52.heap.size := Nat.lt_of_lt_of_le gxh (by rw [hw52]; simp)
        obtain ⟨gr, gre⟩ : ∃ g, w51.heap.size = g := ⟨_, rfl⟩
        have grh : gr < w52.heap.size := by rw [hw52, ← gre]; simp
        have negxgr : gx ≠ gr := by have := gxp; omega
        have negrgx : gr ≠ gx := Ne.symm negxgr
        have HO52 := Lib.hid (show w52.ownsRow W1.heap.size 50 4 (.slice (some ⟨gr, 0, none⟩) 0 0) 0 [] by rw [hw52, ← gre]; exact own_empty (w := w51) (by first | exact Nat.le_refl _ | exact hx51.size))
        (try rw [gre])
        clear hw52 gre
        refine hK.out _ _ ⟨hx52.keep x0, hx52.keep x1, hx52.keep x2, hx52.keep x3, hx52.keep y0, hx52.keep y1, hx52.keep y2, hx52.keep y3⟩ (fun hHeld => ?_)
        clear hK K
        (try simp only [List.setIfInBounds_toArray, List.set_cons_zero, List.set_cons_succ])
        refine wpAnyH_ready (rs := [4]) (by kernel_rfl) (by simp) ?_
        refine AllReadyH.cons (o := _) rfl (fun K hK => ?_) AllReadyH.nil
        obtain ⟨hi, hz0, hz1, hz2⟩ := HIN.out
        refine Wb.step_append_row (by rfl) _ _ _ (by rfl) W1.heap.size 50 i0 (.agg #[.int .i64 0, .int .i64 0, .int .i64 0, .int .i64 0]) 4 32 Try.underlying28 hi hz0 hz1 hz2 (by rfl) (by decide) _ (0) ([]) (by rfl) (HO52.out) _ (by rfl) (kn) (rowsOf pcc (L.take kn)) (HC1.out.ext hx52) (rpc_one _) (by unfold maxLen; omega) (by omega) (Below.size (show Wb.Ext W1 w52 from hx52)) ?_
        intro v53 w53 ho53 hg53 hat53
        obtain ⟨N53, hN53⟩ : ∃ n, n = 0 + (kn) := ⟨_, rfl⟩
        rw [← hN53] at ho53
        have HN53 := Lib.hid hN53
        have hNb53 : N53 ≤ 0 + (kn) := Nat.le_of_eq hN53
        clear hN53
        have HO53 := Lib.hid ho53
        have hx53 : Wb.Ext W1 w53 := Wb.Ext.grown hx52 hg53 (fun q hq => (HO52.out.lt q hq).1)
        replace HLx := Lib.hid (src_grown HLx.out hg53 (fun a m c e => by cases e; intro hq; injection hq with hq; exact negrgx hq))
        obtain ⟨ra53, rc53, rfl⟩ := row_shape ho53
        replace gxh : gx < w53.heap.size := Nat.lt_of_lt_of_le gxh hg53.size
        replace grh : gr < w53.heap.size := Nat.lt_of_lt_of_le grh hg53.size
        clear hi hz0 hz1 hz2 ho53 hg53 hat53
        refine hK.out _ _ ⟨hx53.keep x0, hx53.keep x1, hx53.keep x2, hx53.keep x3, hx53.keep y0, hx53.keep y1, hx53.keep y2, hx53.keep y3⟩ (fun hHeld => ?_)
        clear hK K
        (try simp only [List.setIfInBounds_toArray, List.set_cons_zero, List.set_cons_succ])
        refine wpAnyH_ready (rs := [8]) (by kernel_rfl) (by simp) ?_
        refine AllReadyH.cons (o := _) rfl (fun K hK => ?_) AllReadyH.nil
        obtain ⟨hi, hz0, hz1, hz2⟩ := HIN.out
        refine Wb.step_append_row (by rfl) _ _ _ (by rfl) W1.heap.size 50 i0 (.agg #[.int .i64 0, .int .i64 0, .int .i64 0, .int .i64 0]) 4 32 Try.underlying28 hi hz0 hz1 hz2 (by rfl) (by decide) _ (N53) ([] ++ rowsOf pcc (L.take kn)) (by rfl) (HO53.out) _ (by rfl) (2) (rowsOf pcc [(⟨(z.d.1, M), z.y, z.part⟩ : Pc), (⟨(M, z.d.2), z.y, z.part⟩ : Pc)]) (HLx.out) (rpc_one _) (by unfold maxLen; omega) (by omega) (Below.size (show Wb.Ext W1 w53 from hx53)) ?_
        intro v54 w54 ho54 hg54 hat54
        obtain ⟨N54, hN54⟩ : ∃ n, n = N53 + (2) := ⟨_, rfl⟩
        rw [← hN54] at ho54
        have HN54 := Lib.hid hN54
        have hNb54 : N54 ≤ N53 + (2) := Nat.le_of_eq hN54
        clear hN54
        have HO54 := Lib.hid ho54
        have hx54 : Wb.Ext W1 w54 := Wb.Ext.grown hx53 hg54 (fun q hq => (HO53.out.lt q hq).1)
        obtain ⟨ra54, rc54, rfl⟩ := row_shape ho54
        replace gxh : gx < w54.heap.size := Nat.lt_of_lt_of_le gxh hg54.size
        replace grh : gr < w54.heap.size := Nat.lt_of_lt_of_le grh hg54.size
        clear hi hz0 hz1 hz2 ho54 hg54 hat54
        refine hK.out _ _ ⟨hx54.keep x0, hx54.keep x1, hx54.keep x2, hx54.keep x3, hx54.keep y0, hx54.keep y1, hx54.keep y2, hx54.keep y3⟩ (fun hHeld => ?_)
        clear hK K
        (try simp only [List.setIfInBounds_toArray, List.set_cons_zero, List.set_cons_succ])
        refine wpAnyH_ready (rs := [13]) (by kernel_rfl) (by simp) ?_
        refine AllReadyH.cons (o := _) rfl (fun K hK => ?_) AllReadyH.nil
        obtain ⟨hi, hz0, hz1, hz2⟩ := HIN.out
        refine Wb.step_append_row (by rfl) _ _ _ (by rfl) W1.heap.size 50 i0 (.agg #[.int .i64 0, .int .i64 0, .int .i64 0, .int .i64 0]) 4 32 Try.underlying28 hi hz0 hz1 hz2 (by rfl) (by decide) _ (N54) ([] ++ rowsOf pcc (L.take kn) ++ rowsOf pcc [(⟨(z.d.1, M), z.y, z.part⟩ : Pc), (⟨(M, z.d.2), z.y, z.part⟩ : Pc)]) (by rfl) (HO54.out) _ (by rfl) (L.length - (kn + 1)) (rowsOf pcc (L.drop (kn + 1))) (HC2.out.ext hx54) (rpc_one _) (by unfold maxLen; omega) (by omega) (Below.size (show Wb.Ext W1 w54 from hx54)) ?_
        intro v55 w55 ho55 hg55 hat55
        obtain ⟨N55, hN55⟩ : ∃ n, n = N54 + (L.length - (kn + 1)) := ⟨_, rfl⟩
        rw [← hN55] at ho55
        have HN55 := Lib.hid hN55
        have hNb55 : N55 ≤ N54 + (L.length - (kn + 1)) := Nat.le_of_eq hN55
        clear hN55
        have HO55 := Lib.hid ho55
        have hx55 : Wb.Ext W1 w55 := Wb.Ext.grown hx54 hg55 (fun q hq => (HO54.out.lt q hq).1)
        obtain ⟨ra55, rc55, rfl⟩ := row_shape ho55
        replace gxh : gx < w55.heap.size := Nat.lt_of_lt_of_le gxh hg55.size
        replace grh : gr < w55.heap.size := Nat.lt_of_lt_of_le grh hg55.size
        clear hi hz0 hz1 hz2 ho55 hg55 hat55
        refine hK.out _ _ ⟨hx55.keep x0, hx55.keep x1, hx55.keep x2, hx55.keep x3, hx55.keep y0, hx55.keep y1, hx55.keep y2, hx55.keep y3⟩ (fun hHeld => ?_)
        clear hK K
        (try simp only [List.setIfInBounds_toArray, List.set_cons_zero, List.set_cons_succ])
        refine take_d (i := 14) (d := 22) (v := ?_) rfl rfl (by kernel_rfl) (by kernel_rfl) (by kernel_rfl) (fun _ _ _ h => h) (Or.inl ⟨by rfl, ?_⟩) (by assumption) ?_
        rotate_left
        · (intro w hSw; (try dsimp only at hSw); go_simp; (try with_reducible rfl))
        (try simp only [Act.put, List.setIfInBounds_toArray, List.set_cons_zero, List.set_cons_succ])
        refine wpAnyH_done (by kernel_rfl) ?_ _
        have hxe : Wb.Ext w5 w55 := hxW.trans hx55
        have HT := Lib.hid (row_tbl (base := W1.heap.size) (e := 50) (n := N55) (l := L.take kn ++ (⟨(z.d.1, M), z.y, z.part⟩ : Pc) :: (⟨(M, z.d.2), z.y, z.part⟩ : Pc) :: L.drop (kn + 1)) pcc_len (by decide) (by
          have h1 := HO55.out
          have h3 : rowsOf pcc (L.take kn ++ (⟨(z.d.1, M), z.y, z.part⟩ : Pc) :: (⟨(M, z.d.2), z.y, z.part⟩ : Pc) :: L.drop (kn + 1)) = [] ++ rowsOf pcc (L.take kn) ++ rowsOf pcc [(⟨(z.d.1, M), z.y, z.part⟩ : Pc), (⟨(M, z.d.2), z.y, z.part⟩ : Pc)] ++ rowsOf pcc (L.drop (kn + 1)) := by simp [rowsOf]
          rw [h3]
          exact h1))
        have xp0 := hxe.keep xp0
        have xp1 := hxe.keep xp1
        have xp2 := hxe.keep xp2
        have xp3 := hxe.keep xp3
        have xp4 := hxe.keep xp4
        have xp5 := hxe.keep xp5
        have hx9 : Wb.Ext w w55 := hx5.trans hxe
        go_wp2_with fail
        go_fit (salary_any yr ix o f t pay _ (L.take kn ++ (⟨(z.d.1, M), z.y, z.part⟩ : Pc) :: (⟨(M, z.d.2), z.y, z.part⟩ : Pc) :: L.drop (kn + 1)) _ HI.out HS.out (HT.out.ext (by (repeat' (first | (with_reducible assumption) | (with_reducible exact Wb.Ext.refl _) | (with_reducible refine Wb.Ext.drew ?_) | (with_reducible refine Wb.Ext.drewN ?_ _) | (with_reducible refine Wb.Ext.alloc ?_ _) | (with_reducible refine Wb.Ext.trans ?_ (by assumption)))))) HBC.out (by simp; omega)); rintro e w99 ⟨rfl, hb99⟩
        rw [HY.out]
        have hx10 : Wb.Ext w w99 := hx9.trans (Wb.Ext.trans (by (repeat' (first | (with_reducible assumption) | (with_reducible exact Wb.Ext.refl _) | (with_reducible refine Wb.Ext.drew ?_) | (with_reducible refine Wb.Ext.drewN ?_ _) | (with_reducible refine Wb.Ext.alloc ?_ _) | (with_reducible refine Wb.Ext.trans ?_ (by assumption))))) hb99)
        clear hb99
        rcases HCUT.out with ⟨rfl, rfl⟩ | rfl <;> (go_wp2; go_ret; exact ⟨rfl, hx10⟩)
      exact AllReadyH.nil

end Go.Proofs.Ytheofklbmknipaa
