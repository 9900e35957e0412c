/- Chapter 6: PeriodNexts: the walk. -/
import Derived.Test.YtalpdodajcdibaaDoorPLaw1
import Derived.Deep.DeepCutAuto
namespace Go.Proofs.YtalpdodajcdibaaDoor
open Go.RowKit
set_option maxRecDepth 4000

theorem far6 {w : World} {b c k : Nat} {x0 x1 x2 x3 x4 x5 v : Value} (hc : c ≠ b) (h : w.cell? ⟨c, k, none⟩ = some v) :
    ((((((w.setCell ⟨b, 0, none⟩ x0).setCell ⟨b, 1, none⟩ x1).setCell ⟨b, 2, none⟩ x2).setCell ⟨b, 3, none⟩ x3).setCell ⟨b, 4, none⟩ x4).setCell ⟨b, 5, none⟩ x5).cell? ⟨c, k, none⟩ = some v := by
  have hc' : ¬ b = c := fun h => hc h.symm
  simp [go_sem, hc', h]

theorem cda {w : World} {o : Obj} {b k : Nat} {v : Value} (h : w.drew.cell? ⟨b, k, none⟩ = some v) : (w.alloc o).drew.cell? ⟨b, k, none⟩ = some v := ((Wb.Ext.refl w).alloc o).keep h
theorem zero6d {W w1 : World} {n : Nat} {T : TypeId} (h : Wb.Ext (W.alloc (.cells #[.int .i64 0, .int .i64 0, .int .i64 0, .int .i64 0, .int .i64 0, .int .i64 0] T)).drew w1) (hn : W.heap.size = n) : Zero6 w1 n :=
  zero6g (Wb.Ext.trans ((Wb.Ext.refl _).drew) h) hn

theorem perB_set {w : World} {g : Nat} (h : Zero6 w g) (p : Wb.Per) : PerB ((((((w.setCell ⟨g, 0, none⟩ (.int .i64 p.year)).setCell ⟨g, 1, none⟩ (.int .i64 p.index)).setCell ⟨g, 2, none⟩ (.int .i64 p.of)).setCell ⟨g, 3, none⟩ (.int .i64 p.from_)).setCell ⟨g, 4, none⟩ (.int .i64 p.to_)).setCell ⟨g, 5, none⟩ (.int .i64 p.pay)) g p := by
  obtain ⟨⟨q0, q1, q2, q3, q4, q5⟩, qf, hz⟩ := h
  refine ⟨?_, ?_, ?_, ?_, ?_, ?_⟩ <;> simp [go_sem, q0, q1, q2, q3, q4, q5, qf, hz]

theorem perB_lit (w : World) (p : Wb.Per) (T : TypeId) : PerB (w.alloc (.cells #[.int .i64 p.year, .int .i64 p.index, .int .i64 p.of, .int .i64 p.from_, .int .i64 p.to_, .int .i64 p.pay] T)) w.heap.size p := PerB.new (Wb.Ext.refl _) rfl

set_option maxHeartbeats 4000000 in
theorem nexts_walk (c : Wb.Cal) (p q : Wb.Per) (w : World) (hw : LenC w) (hp : LenP w) (ht : Tab10 w) :
    Calls Tryd.prog 7 #[CalV c, PerV p, PerV q] w fun e w' => e = .returned (.bool true) ∧ Wb.Ext w w' := by
  have HW := Lib.hid hw
  have HP := Lib.hid hp
  have HT := Lib.hid ht
  clear hw hp ht
  obtain ⟨n, hn⟩ : ∃ n, nextPer c p = n := ⟨_, rfl⟩
  obtain ⟨r, hr⟩ : ∃ r, nextErr c p = r := ⟨_, rfl⟩
  obtain ⟨m, hm⟩ : ∃ m, countOf c p q = m := ⟨_, rfl⟩
  have HN := Lib.hid hn
  have HR := Lib.hid hr
  have HM := Lib.hid hm
  clear hn hr hm
  go_enter Tryd.func7, Tryd.ntmps7
  go_wp2_with fail
  refine (next_any c p _ (HW.out.ext (by (repeat' (first | (with_reducible assumption) | (with_reducible exact Wb.Ext.refl _) | (with_reducible refine Wb.Ext.drew ?_) | (with_reducible refine Wb.Ext.drewN ?_ _) | (with_reducible refine Wb.Ext.alloc ?_ _) | (with_reducible refine Wb.Ext.trans ?_ (by assumption)))))) (HP.out.ext (by (repeat' (first | (with_reducible assumption) | (with_reducible exact Wb.Ext.refl _) | (with_reducible refine Wb.Ext.drew ?_) | (with_reducible refine Wb.Ext.drewN ?_ _) | (with_reducible refine Wb.Ext.alloc ?_ _) | (with_reducible refine Wb.Ext.trans ?_ (by assumption))))))).mono ?_; rintro e w1 ⟨rfl, hb1⟩
  rw [HN.out, HR.out]
  have HC := Lib.hid (CalB.new (c := c) (T := 24) (w1 := w1) (W := w) (Wb.Ext.trans (by (repeat' (first | (with_reducible assumption) | (with_reducible exact Wb.Ext.refl _) | (with_reducible refine Wb.Ext.drew ?_) | (with_reducible refine Wb.Ext.drewN ?_ _) | (with_reducible refine Wb.Ext.alloc ?_ _) | (with_reducible refine Wb.Ext.trans ?_ (by assumption))))) hb1) rfl)
  have HPP := Lib.hid (PerB.new (p := p) (T := 28) (w1 := w1) (W := w.alloc (.cells #[.int .i64 c.kind, .int .i64 c.first, .int .i64 c.lag] 24)) (n := w.heap.size + 1) (Wb.Ext.trans (by (repeat' (first | (with_reducible assumption) | (with_reducible exact Wb.Ext.refl _) | (with_reducible refine Wb.Ext.drew ?_) | (with_reducible refine Wb.Ext.drewN ?_ _) | (with_reducible refine Wb.Ext.alloc ?_ _) | (with_reducible refine Wb.Ext.trans ?_ (by assumption))))) hb1) (by simp))
  have HPQ := Lib.hid (PerB.new (p := q) (T := 28) (w1 := w1) (n := w.heap.size + 1 + 1) hb1 (by simp))
  have he1 : Wb.Ext w w1 := by (repeat' (first | (with_reducible assumption) | (with_reducible exact Wb.Ext.refl _) | (with_reducible refine Wb.Ext.drew ?_) | (with_reducible refine Wb.Ext.drewN ?_ _) | (with_reducible refine Wb.Ext.alloc ?_ _) | (with_reducible refine Wb.Ext.trans ?_ (by assumption))))
  have hz1 : w.heap.size + 1 + 1 + 1 ≤ w1.heap.size := by have := hb1.size; simpa using this
  clear hb1
  go_wp2_with fail
  refine Wb.wp_at fun w2 hw2 => ?_
  have hb2 : Wb.Ext (w1.alloc (.cells #[.int .i64 n.year, .int .i64 n.index, .int .i64 n.of, .int .i64 n.from_, .int .i64 n.to_, .int .i64 n.pay] 28)) w2 := by rw [hw2]; exact Wb.Ext.refl _
  clear hw2
  have hb12 : Wb.Ext w1 w2 := Wb.Ext.trans ((Wb.Ext.refl _).alloc _) hb2
  obtain ⟨k0, k1, k2⟩ := HC.out.ext hb12
  obtain ⟨g0, g1, g2, g3, g4, g5⟩ := HPP.out.ext hb12
  have HPN := Lib.hid (PerB.new hb2 rfl)
  have he2 : Wb.Ext w w2 := he1.trans hb12
  have hz := Wb.cell_size k0
  have hz2 := Wb.cell_size g0
  have hsz : w.heap.size + 3 < w2.heap.size := by have h1 := hb2.size; have h2 := hz1; simp at h1; omega
  go_upto_region 2 with (fail)
  go_cut [9, 10] (fun s9 s10 wx => ∃ g : Nat, s9 = .pointer (some ⟨g, 0, none⟩) ∧ s10 = .int .i64 r ∧ PerB wx g n ∧ Wb.Ext w2 wx)
  case first =>
    go_region_held3 (fun w' => w.heap.size + 3 < w'.heap.size ∧ w'.cell? ⟨w.heap.size, 0, none⟩ = some (.int .i64 c.kind) ∧ w'.cell? ⟨w.heap.size, 1, none⟩ = some (.int .i64 c.first) ∧ w'.cell? ⟨w.heap.size, 2, none⟩ = some (.int .i64 c.lag) ∧ w'.cell? ⟨w.heap.size + 1, 0, none⟩ = some (.int .i64 p.year) ∧ w'.cell? ⟨w.heap.size + 1, 1, none⟩ = some (.int .i64 p.index) ∧ w'.cell? ⟨w.heap.size + 1, 2, none⟩ = some (.int .i64 p.of) ∧ w'.cell? ⟨w.heap.size + 1, 3, none⟩ = some (.int .i64 p.from_) ∧ w'.cell? ⟨w.heap.size + 1, 4, none⟩ = some (.int .i64 p.to_) ∧ w'.cell? ⟨w.heap.size + 1, 5, none⟩ = some (.int .i64 p.pay)) (first | with_reducible assumption | (obtain ⟨jz, j0, j1, j2, j3, j4, j5, j6, j7, j8⟩ := ‹_ ∧ _ ∧ _ ∧ _ ∧ _ ∧ _ ∧ _ ∧ _ ∧ _ ∧ _›; first | with_reducible exact ⟨by simp; omega, far6 (by omega) j0, far6 (by omega) j1, far6 (by omega) j2, far6 (by omega) j3, far6 (by omega) j4, far6 (by omega) j5, far6 (by omega) j6, far6 (by omega) j7, far6 (by omega) j8⟩ | with_reducible exact ⟨by simp at jz; simp; omega, Wb.al2 (by simp at jz; omega) j0, Wb.al2 (by simp at jz; omega) j1, Wb.al2 (by simp at jz; omega) j2, Wb.al2 (by simp at jz; omega) j3, Wb.al2 (by simp at jz; omega) j4, Wb.al2 (by simp at jz; omega) j5, Wb.al2 (by simp at jz; omega) j6, Wb.al2 (by simp at jz; omega) j7, Wb.al2 (by simp at jz; omega) j8⟩ | with_reducible exact ⟨by simp; omega, ((Wb.Ext.refl _).alloc _).keep j0, ((Wb.Ext.refl _).alloc _).keep j1, ((Wb.Ext.refl _).alloc _).keep j2, ((Wb.Ext.refl _).alloc _).keep j3, ((Wb.Ext.refl _).alloc _).keep j4, ((Wb.Ext.refl _).alloc _).keep j5, ((Wb.Ext.refl _).alloc _).keep j6, ((Wb.Ext.refl _).alloc _).keep j7, ((Wb.Ext.refl _).alloc _).keep j8⟩ | with_reducible exact ⟨by simp; omega, cda j0, cda j1, cda j2, cda j3, cda j4, cda j5, cda j6, cda j7, cda j8⟩ | exact ⟨Nat.lt_of_lt_of_le jz hb.size, hb.keep j0, hb.keep j1, hb.keep j2, hb.keep j3, hb.keep j4, hb.keep j5, hb.keep j6, hb.keep j7, hb.keep j8⟩) | exact ⟨hsz, k0, k1, k2, g0, g1, g2, g3, g4, g5⟩ | go_keep) (first | (go_at_call 11; go_fit (ofc_any c _); rintro e w' ⟨rfl, hb⟩; have hzz := hb.size; (try simp at hzz); (first | (have HZ6 := Lib.hid (zero6g hb rfl)) | (have HZ6 := Lib.hid (zero6d hb rfl)) | skip)) | (go_at_call 23; go_fit (rnext_any c p _); rintro e w' ⟨rfl, hb⟩; rw [HN.out, HR.out]; have hzz2 := hb.size; (try simp at hzz2); (first | (have HZ7 := Lib.hid (HZ6.out.ext hb)) | (have HZ7 := Lib.hid (zero6g hb rfl)) | skip); (first | (have z0 := HZ7.out.1.1; have z1 := HZ7.out.1.2.1; have z2 := HZ7.out.1.2.2.1; have z3 := HZ7.out.1.2.2.2.1; have z4 := HZ7.out.1.2.2.2.2.1; have z5 := HZ7.out.1.2.2.2.2.2; have zf := HZ7.out.2.1; have zz := HZ7.out.2.2) | skip)))
    all_goals (go_wp2_with fail; go_meet)
    all_goals refine ⟨_, rfl, rfl, ?_, ?_⟩
    all_goals first | with_reducible exact perB_set HZ7.out n | with_reducible exact perB_lit _ n _ | (repeat' (first | (with_reducible assumption) | (with_reducible exact Wb.Ext.refl _) | (with_reducible refine Wb.Ext.drew ?_) | (with_reducible refine Wb.Ext.drewN ?_ _) | (with_reducible refine Wb.Ext.alloc ?_ _) | (with_reducible refine Wb.ext_set ?_ (by first | assumption | (simp; done) | (simp; omega) | omega) _) | (with_reducible refine Wb.Ext.trans ?_ (by assumption))))
  case rest =>
    obtain ⟨g, rfl, rfl, hcut1, hcut2⟩ := hcut
    have hwc : Wb.Ext w wc := he2.trans hcut2
    obtain ⟨k0, k1, k2⟩ := HC.out.ext (hb12.trans hcut2)
    obtain ⟨a0, a1, a2, a3, a4, a5⟩ := HPP.out.ext (hb12.trans hcut2)
    obtain ⟨b0, b1, b2, b3, b4, b5⟩ := HPQ.out.ext (hb12.trans hcut2)
    obtain ⟨c0, c1, c2, c3, c4, c5⟩ := HPN.out.ext hcut2
    obtain ⟨d0, d1, d2, d3, d4, d5⟩ := hcut1
    have heq : ∀ w, (binOp .eql 32 (.agg #[.int .i64 n.year, .int .i64 n.index, .int .i64 n.of, .int .i64 n.from_, .int .i64 n.to_, .int .i64 n.pay]) (.agg #[.int .i64 n.year, .int .i64 n.index, .int .i64 n.of, .int .i64 n.from_, .int .i64 n.to_, .int .i64 n.pay])).run Tryd.prog w = .ok (.bool true) w := fun w => by have := perEq n n w; simpa only [PerV, decide_true] using this
    clear g0 g1 g2 g3 g4 g5 hb12 hb2 hcut2 hz hz2
    go_wp2_with fail
    go_region_held3 (fun w' => w'.cell? ⟨w.heap.size, 0, none⟩ = some (.int .i64 c.kind) ∧ w'.cell? ⟨w.heap.size, 1, none⟩ = some (.int .i64 c.first) ∧ w'.cell? ⟨w.heap.size, 2, none⟩ = some (.int .i64 c.lag) ∧ w'.cell? ⟨w.heap.size + 1, 0, none⟩ = some (.int .i64 p.year) ∧ w'.cell? ⟨w.heap.size + 1, 1, none⟩ = some (.int .i64 p.index) ∧ w'.cell? ⟨w.heap.size + 1, 2, none⟩ = some (.int .i64 p.of) ∧ w'.cell? ⟨w.heap.size + 1, 3, none⟩ = some (.int .i64 p.from_) ∧ w'.cell? ⟨w.heap.size + 1, 4, none⟩ = some (.int .i64 p.to_) ∧ w'.cell? ⟨w.heap.size + 1, 5, none⟩ = some (.int .i64 p.pay) ∧ w'.cell? ⟨w.heap.size + 1 + 1, 0, none⟩ = some (.int .i64 q.year) ∧ w'.cell? ⟨w.heap.size + 1 + 1, 1, none⟩ = some (.int .i64 q.index) ∧ w'.cell? ⟨w.heap.size + 1 + 1, 2, none⟩ = some (.int .i64 q.of) ∧ w'.cell? ⟨w.heap.size + 1 + 1, 3, none⟩ = some (.int .i64 q.from_) ∧ w'.cell? ⟨w.heap.size + 1 + 1, 4, none⟩ = some (.int .i64 q.to_) ∧ w'.cell? ⟨w.heap.size + 1 + 1, 5, none⟩ = some (.int .i64 q.pay) ∧ w'.cell? ⟨w1.heap.size, 0, none⟩ = some (.int .i64 n.year) ∧ w'.cell? ⟨w1.heap.size, 1, none⟩ = some (.int .i64 n.index) ∧ w'.cell? ⟨w1.heap.size, 2, none⟩ = some (.int .i64 n.of) ∧ w'.cell? ⟨w1.heap.size, 3, none⟩ = some (.int .i64 n.from_) ∧ w'.cell? ⟨w1.heap.size, 4, none⟩ = some (.int .i64 n.to_) ∧ w'.cell? ⟨w1.heap.size, 5, none⟩ = some (.int .i64 n.pay) ∧ w'.cell? ⟨g, 0, none⟩ = some (.int .i64 n.year) ∧ w'.cell? ⟨g, 1, none⟩ = some (.int .i64 n.index) ∧ w'.cell? ⟨g, 2, none⟩ = some (.int .i64 n.of) ∧ w'.cell? ⟨g, 3, none⟩ = some (.int .i64 n.from_) ∧ w'.cell? ⟨g, 4, none⟩ = some (.int .i64 n.to_) ∧ w'.cell? ⟨g, 5, none⟩ = some (.int .i64 n.pay)) (first | with_reducible assumption | (obtain ⟨j0, j1, j2, j3, j4, j5, j6, j7, j8, j9, j10, j11, j12, j13, j14, j15, j16, j17, j18, j19, j20, j21, j22, j23, j24, j25, j26⟩ := ‹_ ∧ _ ∧ _ ∧ _ ∧ _ ∧ _ ∧ _ ∧ _ ∧ _ ∧ _ ∧ _ ∧ _ ∧ _ ∧ _ ∧ _ ∧ _ ∧ _ ∧ _ ∧ _ ∧ _ ∧ _ ∧ _ ∧ _ ∧ _ ∧ _ ∧ _ ∧ _›; exact ⟨hb.keep j0, hb.keep j1, hb.keep j2, hb.keep j3, hb.keep j4, hb.keep j5, hb.keep j6, hb.keep j7, hb.keep j8, hb.keep j9, hb.keep j10, hb.keep j11, hb.keep j12, hb.keep j13, hb.keep j14, hb.keep j15, hb.keep j16, hb.keep j17, hb.keep j18, hb.keep j19, hb.keep j20, hb.keep j21, hb.keep j22, hb.keep j23, hb.keep j24, hb.keep j25, hb.keep j26⟩) | exact ⟨k0, k1, k2, a0, a1, a2, a3, a4, a5, b0, b1, b2, b3, b4, b5, c0, c1, c2, c3, c4, c5, d0, d1, d2, d3, d4, d5⟩ | go_keep) (first | (go_at_call 12; go_fit (awake06_any _ (HW.out.ext (by (repeat' (first | (with_reducible assumption) | (with_reducible exact Wb.Ext.refl _) | (with_reducible refine Wb.Ext.drew ?_) | (with_reducible refine Wb.Ext.drewN ?_ _) | (with_reducible refine Wb.Ext.alloc ?_ _) | (with_reducible refine Wb.Ext.trans ?_ (by assumption)))))) (HP.out.ext (by (repeat' (first | (with_reducible assumption) | (with_reducible exact Wb.Ext.refl _) | (with_reducible refine Wb.Ext.drew ?_) | (with_reducible refine Wb.Ext.drewN ?_ _) | (with_reducible refine Wb.Ext.alloc ?_ _) | (with_reducible refine Wb.Ext.trans ?_ (by assumption)))))) (HT.out.ext (by (repeat' (first | (with_reducible assumption) | (with_reducible exact Wb.Ext.refl _) | (with_reducible refine Wb.Ext.drew ?_) | (with_reducible refine Wb.Ext.drewN ?_ _) | (with_reducible refine Wb.Ext.alloc ?_ _) | (with_reducible refine Wb.Ext.trans ?_ (by assumption))))))); rintro e w' ⟨rfl, hb⟩) | (go_at_call 11; go_fit (ofc_any c _); rintro e w' ⟨rfl, hb⟩) | (go_at_call 24; go_fit (rcount_any c p q _); rintro e w' ⟨rfl, hb⟩; rw [HM.out]) | (go_at_call 21; go_fit (count_any c p q _ (HW.out.ext (by (repeat' (first | (with_reducible assumption) | (with_reducible exact Wb.Ext.refl _) | (with_reducible refine Wb.Ext.drew ?_) | (with_reducible refine Wb.Ext.drewN ?_ _) | (with_reducible refine Wb.Ext.alloc ?_ _) | (with_reducible refine Wb.Ext.trans ?_ (by assumption)))))) (HP.out.ext (by (repeat' (first | (with_reducible assumption) | (with_reducible exact Wb.Ext.refl _) | (with_reducible refine Wb.Ext.drew ?_) | (with_reducible refine Wb.Ext.drewN ?_ _) | (with_reducible refine Wb.Ext.alloc ?_ _) | (with_reducible refine Wb.Ext.trans ?_ (by assumption))))))); rintro e w' ⟨rfl, hb⟩; rw [HM.out]))
    all_goals
      go_wp2
      go_ret
      exact ⟨rfl, by (repeat' (first | (with_reducible assumption) | (with_reducible exact Wb.Ext.refl _) | (with_reducible refine Wb.Ext.drew ?_) | (with_reducible refine Wb.Ext.drewN ?_ _) | (with_reducible refine Wb.Ext.alloc ?_ _) | (with_reducible refine Wb.Ext.trans ?_ (by assumption))))⟩

end Go.Proofs.YtalpdodajcdibaaDoor
