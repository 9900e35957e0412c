/- Chapter 27: the reference's Merge. -/
import Derived.Test.YtdfmlgjemfcmlaaSlip15
import Derived.Deep.RegionLaw
namespace Go.Proofs.Ytdfmlgjemfcmlaa
open Go.RowKit
set_option maxRecDepth 4000
attribute [local go_sem ↓] Go.wp_at_zero Go.wp_at_succ

theorem set1 {w w' : World} {b o : Nat} {x x' : Value} (hw : w' = (w.setCell ⟨b, o, none⟩ x).drew) (h0 : w.cell? ⟨b, o, none⟩ = some x') :
    w'.cell? ⟨b, o, none⟩ = some x ∧ (∀ c k, (c ≠ b ∨ k ≠ o) → w'.cell? ⟨c, k, none⟩ = w.cell? ⟨c, k, none⟩) ∧ (∀ p, w'.frozen? p = w.frozen? p) ∧ w'.heap.size = w.heap.size ∧
    (∀ W : World, W.heap.size ≤ b → Wb.Ext W w → Wb.Ext W w') ∧ (∀ base e s n v xs, (∀ k, v.ownBlock = some k → k ≠ b) → w.ownsRow base e s v n xs → w'.ownsRow base e s v n xs) := by
  subst hw
  refine ⟨by simp [go_sem, h0], fun c k hc => ?_, fun p => by simp [go_sem], by simp [go_sem], fun W hW hE => Wb.Ext.drew (ext_set hE hW _), fun base e s n v xs hk h => row_drew (row_set2 h hk _)⟩
  rcases hc with hc | hc
  · have hc' : ¬ b = c := fun h => hc h.symm
    first
      | (simp [go_sem]; done)
      | simp [go_sem, hc']
      | simp [go_sem, hc]
  · have hc' : ¬ o = k := fun h => hc h.symm
    first
      | (simp [go_sem]; done)
      | simp [go_sem, hc']
      | simp [go_sem, hc]

set_option maxHeartbeats 8000000 in
theorem rmergef_any (y i y' i' : Int) (u v : Value) (a b : List Wb.Ln) (w : World) (hu : Lns w u a) (hv : Lns w v b) (hsa : Sized a) (hsb : Sized b) :
    Calls Try.prog 53 #[.agg #[.int .i64 y, .int .i64 i, u], .agg #[.int .i64 y', .int .i64 i', v]] w fun e w' => ∃ m, e = .returned (.tuple #[.agg #[.int .i64 (Wb.merge y i a y' i' b).2.1, .int .i64 (Wb.merge y i a y' i' b).2.2.1, m], .int .i64 (Wb.merge y i a y' i' b).1]) ∧ Lns w' m (Wb.merge y i a y' i' b).2.2.2 ∧ (∀ q, m.ownBlock = some q → w.heap.size ≤ q) ∧ Wb.Ext w w' := by
  obtain ⟨i0, hi, hz0, hz1, hz2⟩ := info_parts infoLine
  have HIN := Lib.hid (show Try.prog.info? 44 = some i0 ∧ i0.zero = some (.agg #[.int .i64 0, .string "".toUTF8, .int .i64 0]) ∧ i0.size = 3 ∧ i0.bytes = 32 from ⟨hi, hz0, hz1, hz2⟩)
  clear hi hz0 hz1 hz2
  obtain ⟨ua, uc, rfl⟩ := hu.shape
  obtain ⟨va, vc, rfl⟩ := hv.shape
  have HU := Lib.hid hu; clear hu
  have HV := Lib.hid hv; clear hv
  have HSA := Lib.hid hsa; clear hsa
  have HSB := Lib.hid hsb; clear hsb
  obtain ⟨ck, hck⟩ : ∃ c, Wb.check y i a = c := ⟨_, rfl⟩
  have HCK := Lib.hid hck; clear hck
  obtain ⟨ck2, hck2⟩ : ∃ c, Wb.check y' i' b = c := ⟨_, rfl⟩
  have HCK2 := Lib.hid hck2; clear hck2
  go_enter Try.func53, Try.ntmps53
  go_wp2_with fail
  refine (rcheck_any y i _ a _ (HU.out.ext (by (repeat' (first | (with_reducible assumption) | (with_reducible exact Wb.Ext.refl _) | (with_reducible refine Wb.Ext.drew ?_) | (with_reducible refine Wb.Ext.drewN ?_ _) | (with_reducible refine Wb.Ext.alloc ?_ _) | (with_reducible refine Wb.Ext.trans ?_ (by assumption)))))) HSA.out).mono ?_; rintro e w1 ⟨rfl, hb1⟩
  rw [HCK.out]
  have he1 : Wb.Ext w w1 := by (repeat' (first | (with_reducible assumption) | (with_reducible exact Wb.Ext.refl _) | (with_reducible refine Wb.Ext.drew ?_) | (with_reducible refine Wb.Ext.drewN ?_ _) | (with_reducible refine Wb.Ext.alloc ?_ _) | (with_reducible refine Wb.Ext.trans ?_ (by assumption))))
  have b0 : w1.cell? ⟨w.heap.size + 1, 0, none⟩ = some (.int .i64 y') := hb1.keep (by simp [go_sem])
  have b1 : w1.cell? ⟨w.heap.size + 1, 1, none⟩ = some (.int .i64 i') := hb1.keep (by simp [go_sem])
  have b2 : w1.cell? ⟨w.heap.size + 1, 2, none⟩ = some (.slice va b.length vc) := hb1.keep (by simp [go_sem])
  have a0 : w1.cell? ⟨w.heap.size, 0, none⟩ = some (.int .i64 y) := hb1.keep (by simp [go_sem])
  have a1 : w1.cell? ⟨w.heap.size, 1, none⟩ = some (.int .i64 i) := hb1.keep (by simp [go_sem])
  have a2 : w1.cell? ⟨w.heap.size, 2, none⟩ = some (.slice ua a.length uc) := hb1.keep (by simp [go_sem])
  have q0 : w1.cell? ⟨w.heap.size + 1 + 1, 0, none⟩ = some (.int .i64 0) := hb1.keep (by simp [go_sem])
  have q1 : w1.cell? ⟨w.heap.size + 1 + 1, 1, none⟩ = some (.int .i64 0) := hb1.keep (by simp [go_sem])
  have q2 : w1.cell? ⟨w.heap.size + 1 + 1, 2, none⟩ = some (.slice none 0 0) := hb1.keep (by simp [go_sem])
  have qf : ∀ j, w1.frozen? ⟨w.heap.size + 1 + 1, j, none⟩ = false := fun j => (Below.frozen hb1 (by simp)).trans (by simp [go_sem])
  have hz1 := Wb.cell_size q0
  clear hb1
  cases hc : (ck != 0)
  case true =>
    have HM := Lib.hid (show Wb.merge y i a y' i' b = (ck, 0, 0, []) by rw [Wb.merge, if_pos (by rw [HCK.out]; simpa using hc)]; rw [HCK.out])
    go_wp2
    refine bodyPost_ret (v := .tuple #[.agg #[.int .i64 0, .int .i64 0, .slice none 0 0], .int .i64 ck]) (by simp [results, Try.results53, go_sem, q0, q1, q2]) rfl ⟨.slice none 0 0, by rw [HM.out] <;> rfl, by rw [HM.out]; exact .inl ⟨rfl, _, _, rfl⟩, (fun q hq => by cases hq), ext_set (ext_set (ext_set he1 (by simp; omega) _) (by simp; omega) _) (by simp; omega) _⟩
  have H1 := Lib.hid (show Wb.check y i a = 0 by rw [HCK.out]; simpa using hc)
  go_wp2_with fail
  refine (rcheck_any y' i' _ b _ (HV.out.ext (by (repeat' (first | (with_reducible assumption) | (with_reducible exact Wb.Ext.refl _) | (with_reducible refine Wb.Ext.drew ?_) | (with_reducible refine Wb.Ext.drewN ?_ _) | (with_reducible refine Wb.Ext.alloc ?_ _) | (with_reducible refine Wb.Ext.trans ?_ (by assumption)))))) HSB.out).mono ?_; rintro e w2 ⟨rfl, hb2⟩
  rw [HCK2.out]
  have he2 : Wb.Ext w w2 := by (repeat' (first | (with_reducible assumption) | (with_reducible exact Wb.Ext.refl _) | (with_reducible refine Wb.Ext.drew ?_) | (with_reducible refine Wb.Ext.drewN ?_ _) | (with_reducible refine Wb.Ext.alloc ?_ _) | (with_reducible refine Wb.Ext.trans ?_ (by assumption))))
  have b0 := hb2.keep b0
  have b1 := hb2.keep b1
  have b2 := hb2.keep b2
  have a0 := hb2.keep a0
  have a1 := hb2.keep a1
  have a2 := hb2.keep a2
  have q0 := hb2.keep q0
  have q1 := hb2.keep q1
  have q2 := hb2.keep q2
  have qf : ∀ j, w2.frozen? ⟨w.heap.size + 1 + 1, j, none⟩ = false := fun j => (Below.frozen hb2 (by simp; omega)).trans (qf j)
  have hz2 := Wb.cell_size q0
  clear hb2 he1 hz1 hc
  cases hc : (ck2 != 0)
  case true =>
    have HM := Lib.hid (show Wb.merge y i a y' i' b = (ck2, 0, 0, []) by rw [Wb.merge, if_neg (by rw [H1.out]; simp), if_pos (by rw [HCK2.out]; simpa using hc)]; rw [HCK2.out])
    go_wp2
    refine bodyPost_ret (v := .tuple #[.agg #[.int .i64 0, .int .i64 0, .slice none 0 0], .int .i64 ck2]) (by simp [results, Try.results53, go_sem, q0, q1, q2]) rfl ⟨.slice none 0 0, by rw [HM.out] <;> rfl, by rw [HM.out]; exact .inl ⟨rfl, _, _, rfl⟩, (fun q hq => by cases hq), ext_set (ext_set (ext_set he2 (by simp; omega) _) (by simp; omega) _) (by simp; omega) _⟩
  have H2 := Lib.hid (show Wb.check y' i' b = 0 by rw [HCK2.out]; simpa using hc)
  clear HCK HCK2
  cases hy : (y != y')
  case true =>
    have HM := Lib.hid (show Wb.merge y i a y' i' b = (18, 0, 0, []) by rw [Wb.merge, if_neg (by rw [H1.out]; simp), if_neg (by rw [H2.out]; simp), if_pos (.inl (by simpa using hy))])
    go_wp2
    refine bodyPost_ret (v := .tuple #[.agg #[.int .i64 0, .int .i64 0, .slice none 0 0], .int .i64 18]) (by simp [results, Try.results53, go_sem, q0, q1, q2]) rfl ⟨.slice none 0 0, by rw [HM.out] <;> rfl, by rw [HM.out]; exact .inl ⟨rfl, _, _, rfl⟩, (fun q hq => by cases hq), ext_set (ext_set (ext_set he2 (by simp; omega) _) (by simp; omega) _) (by simp; omega) _⟩
  have HY := Lib.hid (show y = y' by simpa using hy)
  cases hi : (i != i')
  case true =>
    have HM := Lib.hid (show Wb.merge y i a y' i' b = (18, 0, 0, []) by rw [Wb.merge, if_neg (by rw [H1.out]; simp), if_neg (by rw [H2.out]; simp), if_pos (.inr (by simpa using hi))])
    go_wp2
    refine bodyPost_ret (v := .tuple #[.agg #[.int .i64 0, .int .i64 0, .slice none 0 0], .int .i64 18]) (by simp [results, Try.results53, go_sem, q0, q1, q2]) rfl ⟨.slice none 0 0, by rw [HM.out] <;> rfl, by rw [HM.out]; exact .inl ⟨rfl, _, _, rfl⟩, (fun q hq => by cases hq), ext_set (ext_set (ext_set he2 (by simp; omega) _) (by simp; omega) _) (by simp; omega) _⟩
  have HI := Lib.hid (show i = i' by simpa using hi)
  have HB2 := Lib.hid (show Wb.check y i b = 0 by have := H2.out; rw [← HY.out, ← HI.out] at this; exact this)
  have HMB := Lib.hid (show Wb.merge y i a y' i' b = match Wb.mergeL a b with | none => (9, 0, 0, []) | some l => if 448 < l.length then (5, 0, 0, []) else (0, y, i, l) by rw [Wb.merge, if_neg (by rw [H1.out]; simp), if_neg (by rw [H2.out]; simp), if_neg (by rw [HY.out, HI.out]; simp)] <;> rfl)
  have hla := (Wb.check_ok H1.out).2.2.2.2.1
  have hlb := (Wb.check_ok H2.out).2.2.2.2.1
  have HXL := Lib.hid (Wb.check_ok H1.out).2.2.2.2.2.2
  have HYL := Lib.hid (Wb.check_ok H2.out).2.2.2.2.2.2
  go_wp2_with fail
  clear hy hi hc b0 b1 a0 a1
  obtain ⟨wo, rfl⟩ : ∃ wo : World, wo = w2 := ⟨_, rfl⟩
  go_loopw [9, 10] (fun iv kv wq => ∃ (p q : Nat) (done : List Wb.Ln) (ov : Value), iv = .int .i64 p ∧ kv = .int .i64 q ∧ p ≤ a.length ∧ q ≤ b.length ∧ done.length ≤ p + q ∧ wq.ownsRow (wo.heap.size + 1) 44 3 ov done.length (lnvs done) ∧ Wb.mergeL a b = (Wb.mergeL (a.drop p) (b.drop q)).map (done ++ ·) ∧ wq.cell? ⟨wo.heap.size, 0, none⟩ = some (.int .i64 y) ∧ wq.cell? ⟨wo.heap.size, 1, none⟩ = some (.int .i64 i) ∧ wq.cell? ⟨wo.heap.size, 2, none⟩ = some ov ∧ (∀ j, wq.frozen? ⟨wo.heap.size, j, none⟩ = false) ∧ Wb.Ext wo wq) (fun iv kv _ => a.length + b.length - (intOf iv).toNat - (intOf kv).toNat)
  case atStart => exact ⟨0, 0, [], .slice none 0 0, rfl, rfl, by omega, by omega, by simp, World.ownsRow_nil _ _ _ _, by simp, by simp [go_sem], by simp [go_sem], by simp [go_sem], by intro j; simp [go_sem], by (repeat' (first | (with_reducible assumption) | (with_reducible exact Wb.Ext.refl _) | (with_reducible refine Wb.Ext.drew ?_) | (with_reducible refine Wb.Ext.drewN ?_ _) | (with_reducible refine Wb.Ext.alloc ?_ _) | (with_reducible refine Wb.Ext.trans ?_ (by assumption))))⟩
  case round =>
    obtain ⟨p, q, done, ov, rfl, rfl, hp, hq, hdl, hown, hmg, hc0, hc1, hc2, hcf, hext⟩ := hrel
    obtain ⟨oa, oc, rfl⟩ := row_shape3 hown
    have HO := Lib.hid hown; clear hown
    have HMG := Lib.hid hmg; clear hmg
    have a2 := hext.keep a2
    have b2 := hext.keep b2
    have q0 := hext.keep q0
    have q1 := hext.keep q1
    have q2 := hext.keep q2
    have qf : ∀ j, wr.frozen? ⟨w.heap.size + 1 + 1, j, none⟩ = false := fun j => (Below.frozen hext (by simp; omega)).trans (qf j)
    have hzr := Wb.cell_size hc0
    have hew : Wb.Ext w wr := he2.trans hext
    have hne : some wo.heap.size ≠ (Value.slice oa done.length oc).ownBlock := fun h => by have := HO.out.lt _ h.symm; omega
    by_cases hpl : p < a.length
    · obtain ⟨x, hx⟩ := Wb.get_ex hpl
      obtain ⟨bx, ox, rfl, hcx⟩ := HU.out.opened (ne_of_lt hpl)
      obtain ⟨x0', x1', x2'⟩ := hcx p x hx
      have x0 := hew.keep x0'
      have x1 := hew.keep x1'
      have x2 := hew.keep x2'
      have hxb := Wb.cell_size x0'
      have hpi : (p : Int) < a.length := by omega
      have hpd : decide ((p : Int) < a.length) = true := by simpa using hpl
      have hpe : ((p : Int) == a.length) = false := by simp; omega
      have HDX := Lib.hid (Wb.drop_get hx)
      have HXE := Lib.hid (Wb.lineErr_ok (HXL.out x (List.mem_of_getElem? hx)))
      clear hcx hx
      obtain ⟨xp, xs, xn⟩ := x
      simp only at x0 x1 x2 x0' x1' x2'
      by_cases hql : q < b.length
      · obtain ⟨z, hz⟩ := Wb.get_ex hql
        obtain ⟨bz, oz, rfl, hcz⟩ := HV.out.opened (ne_of_lt hql)
        obtain ⟨z0', z1', z2'⟩ := hcz q z hz
        have z0 := hew.keep z0'
        have z1 := hew.keep z1'
        have z2 := hew.keep z2'
        have hzb := Wb.cell_size z0'
        have hqi : (q : Int) < b.length := by omega
        have hqd : decide ((q : Int) < b.length) = true := by simpa using hql
        have hqe : ((q : Int) == b.length) = false := by simp; omega
        have HDZ := Lib.hid (Wb.drop_get hz)
        have HZE := Lib.hid (Wb.lineErr_ok (HYL.out z (List.mem_of_getElem? hz)))
        clear hcz hz
        obtain ⟨zp, zs, zn⟩ := z
        simp only at z0 z1 z2 z0' z1' z2'
        cases hlt : Wb.lnLt ⟨xp, xs, xn⟩ ⟨zp, zs, zn⟩ with
        | true =>
          have HLT := Lib.hid hlt
          have HSTEP := Lib.hid (show Wb.mergeL a b = (Wb.mergeL (a.drop (p + 1)) (b.drop q)).map ((done ++ [⟨xp, xs, xn⟩]) ++ ·) by rw [HMG.out, HDX.out, HDZ.out, Wb.step_x (.inr ⟨_, _, rfl, hlt⟩), Wb.map_done])
          clear hlt
          go_wp2_with fail
          go_region_held3 (fun w' => w'.cell? ⟨w.heap.size, 2, none⟩ = some (.slice (some ⟨bx, ox, none⟩) a.length uc) ∧ w'.cell? ⟨w.heap.size + 1, 2, none⟩ = some (.slice (some ⟨bz, oz, none⟩) b.length vc) ∧ w'.cell? ⟨bx, ox + p * 3, none⟩ = some (.int .i64 xp) ∧ w'.cell? ⟨bx, ox + p * 3 + 1, none⟩ = some (.string (Wb.S xs)) ∧ w'.cell? ⟨bx, ox + p * 3 + 2, none⟩ = some (.int .i64 xn) ∧ w'.cell? ⟨bz, oz + q * 3, none⟩ = some (.int .i64 zp) ∧ w'.cell? ⟨bz, oz + q * 3 + 1, none⟩ = some (.string (Wb.S zs)) ∧ w'.cell? ⟨bz, oz + q * 3 + 2, none⟩ = some (.int .i64 zn)) (first | with_reducible exact ⟨cd a2, cd b2, cd x0, cd x1, cd x2, cd z0, cd z1, cd z2⟩ | (obtain ⟨j0, j1, j2, j3, j4, j5, j6, j7⟩ := ‹_ ∧ _ ∧ _ ∧ _ ∧ _ ∧ _ ∧ _ ∧ _›; with_reducible exact ⟨hb.keep j0, hb.keep j1, hb.keep j2, hb.keep j3, hb.keep j4, hb.keep j5, hb.keep j6, hb.keep j7⟩) | assumption) (first | (go_at_call 70; go_fit (behind_any ⟨zp, zs, zn⟩ ⟨xp, xs, xn⟩ _); rintro e w' ⟨rfl, hb⟩; rw [HLT.out]))
          go_wp2_with fail
          refine wp_at fun w5 hww5 => ?_
          have hew5 : Wb.Ext wr w5 := by rw [hww5]; (repeat' (first | (with_reducible assumption) | (with_reducible exact Wb.Ext.refl _) | (with_reducible refine Wb.Ext.drew ?_) | (with_reducible refine Wb.Ext.drewN ?_ _) | (with_reducible refine Wb.Ext.alloc ?_ _) | (with_reducible refine Wb.Ext.trans ?_ (by assumption))))
          clear hww5
          have a2 := hew5.keep a2
          have b2 := hew5.keep b2
          have x0 := hew5.keep x0
          have x1 := hew5.keep x1
          have x2 := hew5.keep x2
          have z0 := hew5.keep z0
          have z1 := hew5.keep z1
          have z2 := hew5.keep z2
          have hc0 := hew5.keep hc0
          have hc1 := hew5.keep hc1
          have hc2 := hew5.keep hc2
          have q0 := hew5.keep q0
          have q1 := hew5.keep q1
          have q2 := hew5.keep q2
          have hcf : ∀ j, w5.frozen? ⟨wo.heap.size, j, none⟩ = false := fun j => (Below.frozen hew5 (by simp; omega)).trans (hcf j)
          have qf : ∀ j, w5.frozen? ⟨w.heap.size + 1 + 1, j, none⟩ = false := fun j => (Below.frozen hew5 (by simp; omega)).trans (qf j)
          have HO := Lib.hid (row_ext HO.out hew5)
          have hext : Wb.Ext wo w5 := hext.trans hew5
          have hew : Wb.Ext w w5 := hew.trans hew5
          have hzr := Wb.cell_size hc0
          clear hew5
          obtain ⟨hi1, hi2, hi3, hi4⟩ := HIN.out
          have hsz9 : wo.heap.size + 1 ≤ w5.heap.size := by omega
          go_region_law ((refine step_append_lies _ (by rfl) _ _ _ (by rfl) (wo.heap.size + 1) 44 i0 (.agg #[.int .i64 0, .string "".toUTF8, .int .i64 0]) 3 32 Try.underlying22 hi1 hi2 hi3 hi4 (by rfl) (by decide) _ _ _ (by rfl) (HO.out.alloc _) _ 1 _ (lnv ⟨xp, xs, xn⟩) (by rfl) (by rfl) (World.news_of_block (heap_alloc_new _ _)) (by intro r hr; simp [lnv] at hr; rcases hr with rfl | rfl | rfl <;> rfl) (by decide) (by unfold maxLen; omega) (by omega) (by simp; omega) (w5.heap.size + 1) (by simp) ?_; intro g cap2 w4 hown4 hg4 hat4 hlt4; have g2 : w4.cell? ⟨wo.heap.size, 2, none⟩ = some (.slice oa done.length oc) := (hg4.cell_far _ (by simp; omega) hne).trans (Wb.Ext.keep (by (repeat' (first | (with_reducible assumption) | (with_reducible exact Wb.Ext.refl _) | (with_reducible refine Wb.Ext.drew ?_) | (with_reducible refine Wb.Ext.drewN ?_ _) | (with_reducible refine Wb.Ext.alloc ?_ _) | (with_reducible refine Wb.Ext.trans ?_ (by assumption))))) hc2); have g0 : w4.cell? ⟨wo.heap.size, 0, none⟩ = some (.int .i64 y) := (hg4.cell_far _ (by simp; omega) hne).trans (Wb.Ext.keep (by (repeat' (first | (with_reducible assumption) | (with_reducible exact Wb.Ext.refl _) | (with_reducible refine Wb.Ext.drew ?_) | (with_reducible refine Wb.Ext.drewN ?_ _) | (with_reducible refine Wb.Ext.alloc ?_ _) | (with_reducible refine Wb.Ext.trans ?_ (by assumption))))) hc0); have g1 : w4.cell? ⟨wo.heap.size, 1, none⟩ = some (.int .i64 i) := (hg4.cell_far _ (by simp; omega) hne).trans (Wb.Ext.keep (by (repeat' (first | (with_reducible assumption) | (with_reducible exact Wb.Ext.refl _) | (with_reducible refine Wb.Ext.drew ?_) | (with_reducible refine Wb.Ext.drewN ?_ _) | (with_reducible refine Wb.Ext.alloc ?_ _) | (with_reducible refine Wb.Ext.trans ?_ (by assumption))))) hc1); have gf : ∀ j, w4.frozen? ⟨wo.heap.size, j, none⟩ = false := fun j => (hg4.frozen_far _ (by simp; omega) hne).trans ((Below.frozen (show Wb.Ext w5 _ by (repeat' (first | (with_reducible assumption) | (with_reducible exact Wb.Ext.refl _) | (with_reducible refine Wb.Ext.drew ?_) | (with_reducible refine Wb.Ext.drewN ?_ _) | (with_reducible refine Wb.Ext.alloc ?_ _) | (with_reducible refine Wb.Ext.trans ?_ (by assumption))))) (by simp; omega)).trans (hcf j)); have hE4 : Wb.Ext wo w4 := Wb.Ext.grown (show Wb.Ext wo _ by (repeat' (first | (with_reducible assumption) | (with_reducible exact Wb.Ext.refl _) | (with_reducible refine Wb.Ext.drew ?_) | (with_reducible refine Wb.Ext.drewN ?_ _) | (with_reducible refine Wb.Ext.alloc ?_ _) | (with_reducible refine Wb.Ext.trans ?_ (by assumption))))) hg4 (fun r hr => by have := HO.out.lt r hr; omega)))
          all_goals
            have hE5 := ext_set hE4 (p := ⟨wo.heap.size, 2, none⟩) (by simp) (.slice (some ⟨g, 0, none⟩) (done.length + 1) cap2)
            have HO4 := Lib.hid (row_set hown4 (p := ⟨wo.heap.size, 2, none⟩) (by simp) (.slice (some ⟨g, 0, none⟩) (done.length + 1) cap2))
            clear hown4 hg4 hat4 hlt4 hE4
            go_wp2
            go_roundw
            case rel =>
              refine ⟨p + 1, q, done ++ [⟨xp, xs, xn⟩], .slice (some ⟨g, 0, none⟩) (done.length + 1) cap2, by go_num, by go_num, by omega, by omega, by simp only [List.length_append, List.length_cons, List.length_nil]; omega, ?_, HSTEP.out, by simp [go_sem, g0], by simp [go_sem, g1], by simp [go_sem, g2], by intro j; simp [go_sem, gf], hE5⟩
              simpa [lnvs_app, lnvs] using HO4.out
            case measure => simp [intOf] <;> omega
        | false =>
          have HLT := Lib.hid hlt
          cases hgt : Wb.lnLt ⟨zp, zs, zn⟩ ⟨xp, xs, xn⟩ with
          | true =>
            have HSTEP := Lib.hid (show Wb.mergeL a b = (Wb.mergeL (a.drop p) (b.drop (q + 1))).map ((done ++ [⟨zp, zs, zn⟩]) ++ ·) by rw [HMG.out, HDX.out, HDZ.out, Wb.step_y (.inr ⟨_, _, rfl, hlt, hgt⟩), Wb.map_done])
            clear hlt
            go_wp2_with fail
            go_region_held3 (fun w' => w'.cell? ⟨w.heap.size, 2, none⟩ = some (.slice (some ⟨bx, ox, none⟩) a.length uc) ∧ w'.cell? ⟨w.heap.size + 1, 2, none⟩ = some (.slice (some ⟨bz, oz, none⟩) b.length vc) ∧ w'.cell? ⟨bx, ox + p * 3, none⟩ = some (.int .i64 xp) ∧ w'.cell? ⟨bx, ox + p * 3 + 1, none⟩ = some (.string (Wb.S xs)) ∧ w'.cell? ⟨bx, ox + p * 3 + 2, none⟩ = some (.int .i64 xn) ∧ w'.cell? ⟨bz, oz + q * 3, none⟩ = some (.int .i64 zp) ∧ w'.cell? ⟨bz, oz + q * 3 + 1, none⟩ = some (.string (Wb.S zs)) ∧ w'.cell? ⟨bz, oz + q * 3 + 2, none⟩ = some (.int .i64 zn)) (first | with_reducible exact ⟨cd a2, cd b2, cd x0, cd x1, cd x2, cd z0, cd z1, cd z2⟩ | (obtain ⟨j0, j1, j2, j3, j4, j5, j6, j7⟩ := ‹_ ∧ _ ∧ _ ∧ _ ∧ _ ∧ _ ∧ _ ∧ _›; with_reducible exact ⟨hb.keep j0, hb.keep j1, hb.keep j2, hb.keep j3, hb.keep j4, hb.keep j5, hb.keep j6, hb.keep j7⟩) | assumption) (first | (go_at_call 70; go_fit (behind_any ⟨zp, zs, zn⟩ ⟨xp, xs, xn⟩ _); rintro e w' ⟨rfl, hb⟩; rw [HLT.out]))
            go_wp2_with fail
            refine wp_at fun w5 hww5 => ?_
            have hew5 : Wb.Ext wr w5 := by rw [hww5]; (repeat' (first | (with_reducible assumption) | (with_reducible exact Wb.Ext.refl _) | (with_reducible refine Wb.Ext.drew ?_) | (with_reducible refine Wb.Ext.drewN ?_ _) | (with_reducible refine Wb.Ext.alloc ?_ _) | (with_reducible refine Wb.Ext.trans ?_ (by assumption))))
            clear hww5
            have a2 := hew5.keep a2
            have b2 := hew5.keep b2
            have x0 := hew5.keep x0
            have x1 := hew5.keep x1
            have x2 := hew5.keep x2
            have z0 := hew5.keep z0
            have z1 := hew5.keep z1
            have z2 := hew5.keep z2
            have hc0 := hew5.keep hc0
            have hc1 := hew5.keep hc1
            have hc2 := hew5.keep hc2
            have q0 := hew5.keep q0
            have q1 := hew5.keep q1
            have q2 := hew5.keep q2
            have hcf : ∀ j, w5.frozen? ⟨wo.heap.size, j, none⟩ = false := fun j => (Below.frozen hew5 (by simp; omega)).trans (hcf j)
            have qf : ∀ j, w5.frozen? ⟨w.heap.size + 1 + 1, j, none⟩ = false := fun j => (Below.frozen hew5 (by simp; omega)).trans (qf j)
            have HO := Lib.hid (row_ext HO.out hew5)
            have hext : Wb.Ext wo w5 := hext.trans hew5
            have hew : Wb.Ext w w5 := hew.trans hew5
            have hzr := Wb.cell_size hc0
            clear hew5
            have HGT := Lib.hid hgt
            clear hgt
            go_region_held3 (fun w' => w'.cell? ⟨w.heap.size, 2, none⟩ = some (.slice (some ⟨bx, ox, none⟩) a.length uc) ∧ w'.cell? ⟨w.heap.size + 1, 2, none⟩ = some (.slice (some ⟨bz, oz, none⟩) b.length vc) ∧ w'.cell? ⟨bx, ox + p * 3, none⟩ = some (.int .i64 xp) ∧ w'.cell? ⟨bx, ox + p * 3 + 1, none⟩ = some (.string (Wb.S xs)) ∧ w'.cell? ⟨bx, ox + p * 3 + 2, none⟩ = some (.int .i64 xn) ∧ w'.cell? ⟨bz, oz + q * 3, none⟩ = some (.int .i64 zp) ∧ w'.cell? ⟨bz, oz + q * 3 + 1, none⟩ = some (.string (Wb.S zs)) ∧ w'.cell? ⟨bz, oz + q * 3 + 2, none⟩ = some (.int .i64 zn)) (first | with_reducible exact ⟨cd a2, cd b2, cd x0, cd x1, cd x2, cd z0, cd z1, cd z2⟩ | (obtain ⟨j0, j1, j2, j3, j4, j5, j6, j7⟩ := ‹_ ∧ _ ∧ _ ∧ _ ∧ _ ∧ _ ∧ _ ∧ _›; with_reducible exact ⟨hb.keep j0, hb.keep j1, hb.keep j2, hb.keep j3, hb.keep j4, hb.keep j5, hb.keep j6, hb.keep j7⟩) | assumption) (first | (go_at_call 70; go_fit (behind_any ⟨xp, xs, xn⟩ ⟨zp, zs, zn⟩ _); rintro e w' ⟨rfl, hb⟩; rw [HGT.out]))
            go_wp2_with fail
            refine wp_at fun w6 hww6 => ?_
            have hew6 : Wb.Ext w5 w6 := by rw [hww6]; (repeat' (first | (with_reducible assumption) | (with_reducible exact Wb.Ext.refl _) | (with_reducible refine Wb.Ext.drew ?_) | (with_reducible refine Wb.Ext.drewN ?_ _) | (with_reducible refine Wb.Ext.alloc ?_ _) | (with_reducible refine Wb.Ext.trans ?_ (by assumption))))
            clear hww6
            have a2 := hew6.keep a2
            have b2 := hew6.keep b2
            have x0 := hew6.keep x0
            have x1 := hew6.keep x1
            have x2 := hew6.keep x2
            have z0 := hew6.keep z0
            have z1 := hew6.keep z1
            have z2 := hew6.keep z2
            have hc0 := hew6.keep hc0
            have hc1 := hew6.keep hc1
            have hc2 := hew6.keep hc2
            have q0 := hew6.keep q0
            have q1 := hew6.keep q1
            have q2 := hew6.keep q2
            have hcf : ∀ j, w6.frozen? ⟨wo.heap.size, j, none⟩ = false := fun j => (Below.frozen hew6 (by simp; omega)).trans (hcf j)
            have qf : ∀ j, w6.frozen? ⟨w.heap.size + 1 + 1, j, none⟩ = false := fun j => (Below.frozen hew6 (by simp; omega)).trans (qf j)
            have HO := Lib.hid (row_ext HO.out hew6)
            have hext : Wb.Ext wo w6 := hext.trans hew6
            have hew : Wb.Ext w w6 := hew.trans hew6
            have hzr := Wb.cell_size hc0
            clear hew6
            obtain ⟨hi1, hi2, hi3, hi4⟩ := HIN.out
            have hsz9 : wo.heap.size + 1 ≤ w6.heap.size := by omega
            go_region_law ((refine step_append_lies _ (by rfl) _ _ _ (by rfl) (wo.heap.size + 1) 44 i0 (.agg #[.int .i64 0, .string "".toUTF8, .int .i64 0]) 3 32 Try.underlying22 hi1 hi2 hi3 hi4 (by rfl) (by decide) _ _ _ (by rfl) (HO.out.alloc _) _ 1 _ (lnv ⟨zp, zs, zn⟩) (by rfl) (by rfl) (World.news_of_block (heap_alloc_new _ _)) (by intro r hr; simp [lnv] at hr; rcases hr with rfl | rfl | rfl <;> rfl) (by decide) (by unfold maxLen; omega) (by omega) (by simp; omega) (w6.heap.size + 1) (by simp) ?_; intro g cap2 w4 hown4 hg4 hat4 hlt4; have g2 : w4.cell? ⟨wo.heap.size, 2, none⟩ = some (.slice oa done.length oc) := (hg4.cell_far _ (by simp; omega) hne).trans (Wb.Ext.keep (by (repeat' (first | (with_reducible assumption) | (with_reducible exact Wb.Ext.refl _) | (with_reducible refine Wb.Ext.drew ?_) | (with_reducible refine Wb.Ext.drewN ?_ _) | (with_reducible refine Wb.Ext.alloc ?_ _) | (with_reducible refine Wb.Ext.trans ?_ (by assumption))))) hc2); have g0 : w4.cell? ⟨wo.heap.size, 0, none⟩ = some (.int .i64 y) := (hg4.cell_far _ (by simp; omega) hne).trans (Wb.Ext.keep (by (repeat' (first | (with_reducible assumption) | (with_reducible exact Wb.Ext.refl _) | (with_reducible refine Wb.Ext.drew ?_) | (with_reducible refine Wb.Ext.drewN ?_ _) | (with_reducible refine Wb.Ext.alloc ?_ _) | (with_reducible refine Wb.Ext.trans ?_ (by assumption))))) hc0); have g1 : w4.cell? ⟨wo.heap.size, 1, none⟩ = some (.int .i64 i) := (hg4.cell_far _ (by simp; omega) hne).trans (Wb.Ext.keep (by (repeat' (first | (with_reducible assumption) | (with_reducible exact Wb.Ext.refl _) | (with_reducible refine Wb.Ext.drew ?_) | (with_reducible refine Wb.Ext.drewN ?_ _) | (with_reducible refine Wb.Ext.alloc ?_ _) | (with_reducible refine Wb.Ext.trans ?_ (by assumption))))) hc1); have gf : ∀ j, w4.frozen? ⟨wo.heap.size, j, none⟩ = false := fun j => (hg4.frozen_far _ (by simp; omega) hne).trans ((Below.frozen (show Wb.Ext w6 _ by (repeat' (first | (with_reducible assumption) | (with_reducible exact Wb.Ext.refl _) | (with_reducible refine Wb.Ext.drew ?_) | (with_reducible refine Wb.Ext.drewN ?_ _) | (with_reducible refine Wb.Ext.alloc ?_ _) | (with_reducible refine Wb.Ext.trans ?_ (by assumption))))) (by simp; omega)).trans (hcf j)); have hE4 : Wb.Ext wo w4 := Wb.Ext.grown (show Wb.Ext wo _ by (repeat' (first | (with_reducible assumption) | (with_reducible exact Wb.Ext.refl _) | (with_reducible refine Wb.Ext.drew ?_) | (with_reducible refine Wb.Ext.drewN ?_ _) | (with_reducible refine Wb.Ext.alloc ?_ _) | (with_reducible refine Wb.Ext.trans ?_ (by assumption))))) hg4 (fun r hr => by have := HO.out.lt r hr; omega)))
            all_goals
              have hE5 := ext_set hE4 (p := ⟨wo.heap.size, 2, none⟩) (by simp) (.slice (some ⟨g, 0, none⟩) (done.length + 1) cap2)
              have HO4 := Lib.hid (row_set hown4 (p := ⟨wo.heap.size, 2, none⟩) (by simp) (.slice (some ⟨g, 0, none⟩) (done.length + 1) cap2))
              clear hown4 hg4 hat4 hlt4 hE4
              go_wp2
              go_roundw
              case rel =>
                refine ⟨p, q + 1, done ++ [⟨zp, zs, zn⟩], .slice (some ⟨g, 0, none⟩) (done.length + 1) cap2, by go_num, by go_num, by omega, by omega, by simp only [List.length_append, List.length_cons, List.length_nil]; omega, ?_, HSTEP.out, by simp [go_sem, g0], by simp [go_sem, g1], by simp [go_sem, g2], by intro j; simp [go_sem, gf], hE5⟩
                simpa [lnvs_app, lnvs] using HO4.out
              case measure => simp [intOf] <;> omega
          | false =>
            have hlf := hlt
            have hgf := hgt
            have hfx : Wb.fits xn = true := HXE.out.2.2.2.2
            have hfz : Wb.fits zn = true := HZE.out.2.2.2.2
            have HFF := Lib.hid (And.intro ((Wb.fits_iff _).1 hfx) ((Wb.fits_iff _).1 hfz))
            clear hfx hfz
            have HLF := Lib.hid hlf
            have HGF := Lib.hid hgf
            clear hlf hgf
            clear hlt
            go_wp2_with fail
            go_region_held3 (fun w' => w'.cell? ⟨w.heap.size, 2, none⟩ = some (.slice (some ⟨bx, ox, none⟩) a.length uc) ∧ w'.cell? ⟨w.heap.size + 1, 2, none⟩ = some (.slice (some ⟨bz, oz, none⟩) b.length vc) ∧ w'.cell? ⟨bx, ox + p * 3, none⟩ = some (.int .i64 xp) ∧ w'.cell? ⟨bx, ox + p * 3 + 1, none⟩ = some (.string (Wb.S xs)) ∧ w'.cell? ⟨bx, ox + p * 3 + 2, none⟩ = some (.int .i64 xn) ∧ w'.cell? ⟨bz, oz + q * 3, none⟩ = some (.int .i64 zp) ∧ w'.cell? ⟨bz, oz + q * 3 + 1, none⟩ = some (.string (Wb.S zs)) ∧ w'.cell? ⟨bz, oz + q * 3 + 2, none⟩ = some (.int .i64 zn)) (first | with_reducible exact ⟨cd a2, cd b2, cd x0, cd x1, cd x2, cd z0, cd z1, cd z2⟩ | (obtain ⟨j0, j1, j2, j3, j4, j5, j6, j7⟩ := ‹_ ∧ _ ∧ _ ∧ _ ∧ _ ∧ _ ∧ _ ∧ _›; with_reducible exact ⟨hb.keep j0, hb.keep j1, hb.keep j2, hb.keep j3, hb.keep j4, hb.keep j5, hb.keep j6, hb.keep j7⟩) | assumption) (first | (go_at_call 70; go_fit (behind_any ⟨zp, zs, zn⟩ ⟨xp, xs, xn⟩ _); rintro e w' ⟨rfl, hb⟩; rw [HLT.out]))
            go_wp2_with fail
            refine wp_at fun w5 hww5 => ?_
            have hew5 : Wb.Ext wr w5 := by rw [hww5]; (repeat' (first | (with_reducible assumption) | (with_reducible exact Wb.Ext.refl _) | (with_reducible refine Wb.Ext.drew ?_) | (with_reducible refine Wb.Ext.drewN ?_ _) | (with_reducible refine Wb.Ext.alloc ?_ _) | (with_reducible refine Wb.Ext.trans ?_ (by assumption))))
            clear hww5
            have a2 := hew5.keep a2
            have b2 := hew5.keep b2
            have x0 := hew5.keep x0
            have x1 := hew5.keep x1
            have x2 := hew5.keep x2
            have z0 := hew5.keep z0
            have z1 := hew5.keep z1
            have z2 := hew5.keep z2
            have hc0 := hew5.keep hc0
            have hc1 := hew5.keep hc1
            have hc2 := hew5.keep hc2
            have q0 := hew5.keep q0
            have q1 := hew5.keep q1
            have q2 := hew5.keep q2
            have hcf : ∀ j, w5.frozen? ⟨wo.heap.size, j, none⟩ = false := fun j => (Below.frozen hew5 (by simp; omega)).trans (hcf j)
            have qf : ∀ j, w5.frozen? ⟨w.heap.size + 1 + 1, j, none⟩ = false := fun j => (Below.frozen hew5 (by simp; omega)).trans (qf j)
            have HO := Lib.hid (row_ext HO.out hew5)
            have hext : Wb.Ext wo w5 := hext.trans hew5
            have hew : Wb.Ext w w5 := hew.trans hew5
            have hzr := Wb.cell_size hc0
            clear hew5
            have HGT := Lib.hid hgt
            clear hgt
            go_region_held3 (fun w' => w'.cell? ⟨w.heap.size, 2, none⟩ = some (.slice (some ⟨bx, ox, none⟩) a.length uc) ∧ w'.cell? ⟨w.heap.size + 1, 2, none⟩ = some (.slice (some ⟨bz, oz, none⟩) b.length vc) ∧ w'.cell? ⟨bx, ox + p * 3, none⟩ = some (.int .i64 xp) ∧ w'.cell? ⟨bx, ox + p * 3 + 1, none⟩ = some (.string (Wb.S xs)) ∧ w'.cell? ⟨bx, ox + p * 3 + 2, none⟩ = some (.int .i64 xn) ∧ w'.cell? ⟨bz, oz + q * 3, none⟩ = some (.int .i64 zp) ∧ w'.cell? ⟨bz, oz + q * 3 + 1, none⟩ = some (.string (Wb.S zs)) ∧ w'.cell? ⟨bz, oz + q * 3 + 2, none⟩ = some (.int .i64 zn)) (first | with_reducible exact ⟨cd a2, cd b2, cd x0, cd x1, cd x2, cd z0, cd z1, cd z2⟩ | (obtain ⟨j0, j1, j2, j3, j4, j5, j6, j7⟩ := ‹_ ∧ _ ∧ _ ∧ _ ∧ _ ∧ _ ∧ _ ∧ _›; with_reducible exact ⟨hb.keep j0, hb.keep j1, hb.keep j2, hb.keep j3, hb.keep j4, hb.keep j5, hb.keep j6, hb.keep j7⟩) | assumption) (first | (go_at_call 70; go_fit (behind_any ⟨xp, xs, xn⟩ ⟨zp, zs, zn⟩ _); rintro e w' ⟨rfl, hb⟩; rw [HGT.out]))
            go_wp2_with fail
            have HOK := HO
            have hz5 : wo.heap.size < w5.heap.size := hzr
            refine wp_at fun w6 hww6 => ?_
            generalize hM : w'.heap.size = M
            have hMs : w5.heap.size ≤ M := by rw [← hM]; have := hb.size; simpa using this
            have m0 : w6.cell? ⟨M, 0, none⟩ = some (.int .i64 xp) := by rw [hww6, ← hM]; simp [go_sem]
            have m1 : w6.cell? ⟨M, 1, none⟩ = some (.string (Wb.S xs)) := by rw [hww6, ← hM]; simp [go_sem]
            have m2 : w6.cell? ⟨M, 2, none⟩ = some (.int .i64 xn) := by rw [hww6, ← hM]; simp [go_sem]
            have nf : ∀ j, w6.frozen? ⟨M, j, none⟩ = false := by intro j; rw [hww6, ← hM]; simp [go_sem]
            have hew6 : Wb.Ext w5 w6 := by rw [hww6]; (repeat' (first | (with_reducible assumption) | (with_reducible exact Wb.Ext.refl _) | (with_reducible refine Wb.Ext.drew ?_) | (with_reducible refine Wb.Ext.drewN ?_ _) | (with_reducible refine Wb.Ext.alloc ?_ _) | (with_reducible refine Wb.Ext.trans ?_ (by assumption))))
            have hMw := hew6.size
            clear hww6
            have a2 := hew6.keep a2
            have b2 := hew6.keep b2
            have x0 := hew6.keep x0
            have x1 := hew6.keep x1
            have x2 := hew6.keep x2
            have z0 := hew6.keep z0
            have z1 := hew6.keep z1
            have z2 := hew6.keep z2
            have hc0 := hew6.keep hc0
            have hc1 := hew6.keep hc1
            have hc2 := hew6.keep hc2
            have q0 := hew6.keep q0
            have q1 := hew6.keep q1
            have q2 := hew6.keep q2
            have hcf : ∀ j, w6.frozen? ⟨wo.heap.size, j, none⟩ = false := fun j => (Below.frozen hew6 (by simp; omega)).trans (hcf j)
            have qf : ∀ j, w6.frozen? ⟨w.heap.size + 1 + 1, j, none⟩ = false := fun j => (Below.frozen hew6 (by simp; omega)).trans (qf j)
            have HO := Lib.hid (row_ext HO.out hew6)
            have hext : Wb.Ext wo w6 := hext.trans hew6
            have hew : Wb.Ext w w6 := hew.trans hew6
            have hMz := Wb.cell_size m0
            have hzr := Wb.cell_size hc0
            clear hew6
            obtain ⟨hb1, hb2⟩ := HFF.out
            have hwrap : IntKind.i64.wrap (xn + zn) = xn + zn := IntWalk.i64_in _ (by omega)
            clear hb1 hb2
            have d0 : ¬ M = bz := by omega
            have d1 : ¬ bz = M := by omega
            have d2 : ¬ M = wo.heap.size := by omega
            have d3 : ¬ wo.heap.size = M := by omega
            have d4 : ¬ M = w.heap.size + 1 := by omega
            have d5 : ¬ w.heap.size + 1 = M := by omega
            clear hM
            go_region_law (fail)
            all_goals
              refine at_then fun w7 hw7 => ?_
              obtain ⟨t0, t1, t2, t3, t4, t5⟩ := set1 hw7 m2
              have m0 := (t1 M 0 (.inr (by decide))).trans m0
              have m1 := (t1 M 1 (.inr (by decide))).trans m1
              have hc0 := (t1 wo.heap.size 0 (.inl (by omega))).trans hc0
              have hc1 := (t1 wo.heap.size 1 (.inl (by omega))).trans hc1
              have hc2 := (t1 wo.heap.size 2 (.inl (by omega))).trans hc2
              have q0 := (t1 (w.heap.size + 1 + 1) 0 (.inl (by omega))).trans q0
              have q1 := (t1 (w.heap.size + 1 + 1) 1 (.inl (by omega))).trans q1
              have q2 := (t1 (w.heap.size + 1 + 1) 2 (.inl (by omega))).trans q2
              have hcf : ∀ j, w7.frozen? ⟨wo.heap.size, j, none⟩ = false := fun j => (t2 _).trans (hcf j)
              have qf : ∀ j, w7.frozen? ⟨w.heap.size + 1 + 1, j, none⟩ = false := fun j => (t2 _).trans (qf j)
              have hext := t4 wo (by omega) hext
              have hew := t4 w (by omega) hew
              have HO := Lib.hid (t5 _ _ _ _ _ _ (fun r hr => by have := HOK.out.lt r hr; omega) HO.out)
              have hzr := Wb.cell_size hc0
              clear hw7 t1 t2 t3 t4 t5 a2 b2 x0 x1 x2 z0 z1 z2 hwrap nf m2
              cases hf : Wb.fits (xn + zn) with
              | false =>
                have HF := Lib.hid hf
                have HM := Lib.hid (show Wb.merge y i a y' i' b = (9, 0, 0, []) by rw [HMB.out, HMG.out, HDX.out, HDZ.out, Wb.step_over HLF.out HGF.out hf]; rfl)
                clear hf
                go_wp2_with (go_at_call 63; refine (fits27_any _ _).mono ?_; rintro e w' ⟨rfl, rfl⟩; rw [HF.out])
                refine bodyPost_ret (v := .tuple #[.agg #[.int .i64 0, .int .i64 0, .slice none 0 0], .int .i64 9]) (by simp [results, Try.results53, go_sem, q0, q1, q2]) rfl ⟨.slice none 0 0, by rw [HM.out] <;> rfl, by rw [HM.out]; exact .inl ⟨rfl, _, _, rfl⟩, (fun q hq => by cases hq), ext_set (ext_set (ext_set hew (by simp; omega) _) (by simp; omega) _) (by simp; omega) _⟩
              | true =>
                have HF := Lib.hid hf
                clear hf
                by_cases hz : xn + zn = 0
                · have hxz : (xn + zn != 0) = false := by simp [hz]
                  have HSTEP := Lib.hid (show Wb.mergeL a b = (Wb.mergeL (a.drop (p + 1)) (b.drop (q + 1))).map (done ++ ·) by rw [HMG.out, HDX.out, HDZ.out, Wb.step_none HLF.out HGF.out HF.out hz])
                  clear hz
                  go_wp2_with (go_at_call 63; refine (fits27_any _ _).mono ?_; rintro e w' ⟨rfl, rfl⟩; rw [HF.out])
                  go_roundw
                  case rel => exact ⟨p + 1, q + 1, done, .slice oa done.length oc, by go_num, by go_num, by omega, by omega, by omega, HO.out, HSTEP.out, hc0, hc1, hc2, hcf, hext⟩
                  case measure => simp [intOf] <;> omega
                · have hxz : (xn + zn != 0) = true := by simpa using hz
                  have HSTEP := Lib.hid (show Wb.mergeL a b = (Wb.mergeL (a.drop (p + 1)) (b.drop (q + 1))).map ((done ++ [⟨xp, xs, xn + zn⟩]) ++ ·) by rw [HMG.out, HDX.out, HDZ.out, Wb.step_both HLF.out HGF.out HF.out hz, Wb.map_done])
                  clear hz
                  obtain ⟨hi1, hi2, hi3, hi4⟩ := HIN.out
                  go_wp2_with (first | (go_at_call 63; refine (fits27_any _ _).mono ?_; rintro e w' ⟨rfl, rfl⟩; rw [HF.out]) | (at_builtin; (refine Wb.wpList_append_row rfl (.tmp 145) (.tmp 147) 22 rfl (wo.heap.size + 1) 44 i0 (.agg #[.int .i64 0, .string "".toUTF8, .int .i64 0]) 3 32 Try.underlying22 hi1 hi2 hi3 hi4 rfl (by decide) _ _ _ rfl (HO.out.alloc _) (.slice (some ⟨w7.heap.size, 0, none⟩) 1 1) rfl 1 (lnv ⟨xp, xs, xn + zn⟩) (src_three _ _ (by simp) ⟨xp, xs, xn + zn⟩ _ _) (by intro r hr; simp [lnv] at hr; rcases hr with rfl | rfl | rfl <;> rfl) (by unfold maxLen; omega) (by omega) (by simp; omega) ?_); intro ov2 w4 hown4 hg4 _; obtain ⟨na, nc, rfl⟩ := row_shape3 hown4; have g2 : w4.cell? ⟨wo.heap.size, 2, none⟩ = some (.slice oa done.length oc) := (hg4.cell_far _ (by simp; omega) hne).trans (Wb.Ext.keep (by (repeat' (first | (with_reducible assumption) | (with_reducible exact Wb.Ext.refl _) | (with_reducible refine Wb.Ext.drew ?_) | (with_reducible refine Wb.Ext.drewN ?_ _) | (with_reducible refine Wb.Ext.alloc ?_ _) | (with_reducible refine Wb.Ext.trans ?_ (by assumption))))) hc2); have gf : ∀ j, w4.frozen? ⟨wo.heap.size, j, none⟩ = false := fun j => (hg4.frozen_far _ (by simp; omega) hne).trans ((Below.frozen (show Wb.Ext w7 _ by (repeat' (first | (with_reducible assumption) | (with_reducible exact Wb.Ext.refl _) | (with_reducible refine Wb.Ext.drew ?_) | (with_reducible refine Wb.Ext.drewN ?_ _) | (with_reducible refine Wb.Ext.alloc ?_ _) | (with_reducible refine Wb.Ext.trans ?_ (by assumption))))) (by simp; omega)).trans (hcf j))))
                  have g0 : w4.cell? ⟨wo.heap.size, 0, none⟩ = some (.int .i64 y) := (hg4.cell_far _ (by simp; omega) hne).trans (Wb.Ext.keep (by (repeat' (first | (with_reducible assumption) | (with_reducible exact Wb.Ext.refl _) | (with_reducible refine Wb.Ext.drew ?_) | (with_reducible refine Wb.Ext.drewN ?_ _) | (with_reducible refine Wb.Ext.alloc ?_ _) | (with_reducible refine Wb.Ext.trans ?_ (by assumption))))) hc0)
                  have g1 : w4.cell? ⟨wo.heap.size, 1, none⟩ = some (.int .i64 i) := (hg4.cell_far _ (by simp; omega) hne).trans (Wb.Ext.keep (by (repeat' (first | (with_reducible assumption) | (with_reducible exact Wb.Ext.refl _) | (with_reducible refine Wb.Ext.drew ?_) | (with_reducible refine Wb.Ext.drewN ?_ _) | (with_reducible refine Wb.Ext.alloc ?_ _) | (with_reducible refine Wb.Ext.trans ?_ (by assumption))))) hc1)
                  have hE4 : Wb.Ext wo w4 := Wb.Ext.grown (show Wb.Ext wo _ by (repeat' (first | (with_reducible assumption) | (with_reducible exact Wb.Ext.refl _) | (with_reducible refine Wb.Ext.drew ?_) | (with_reducible refine Wb.Ext.drewN ?_ _) | (with_reducible refine Wb.Ext.alloc ?_ _) | (with_reducible refine Wb.Ext.trans ?_ (by assumption))))) hg4 (fun r hr => by have := HO.out.lt r hr; omega)
                  have hE5 := ext_set hE4 (p := ⟨wo.heap.size, 2, none⟩) (by simp) (.slice na (done.length + 1) nc)
                  have HO4 := Lib.hid (row_set hown4 (p := ⟨wo.heap.size, 2, none⟩) (by simp) (.slice na (done.length + 1) nc))
                  clear hown4 hg4 hE4
                  go_wp2
                  go_roundw
                  case rel =>
                    refine ⟨p + 1, q + 1, done ++ [⟨xp, xs, xn + zn⟩], .slice na (done.length + 1) nc, by go_num, by go_num, by omega, by omega, by simp only [List.length_append, List.length_cons, List.length_nil]; omega, ?_, HSTEP.out, by simp [go_sem, g0], by simp [go_sem, g1], by simp [go_sem, g2], by intro j; simp [go_sem, gf], hE5⟩
                    simpa [lnvs_app, lnvs] using HO4.out
                  case measure => simp [intOf] <;> omega
      · have hqe : q = b.length := by omega
        have HQE := Lib.hid hqe
        have hqd : decide ((q : Int) < b.length) = false := by simp; omega
        have hqb : ((q : Int) == b.length) = true := by simp [hqe]
        clear hqe
        have HSTEP := Lib.hid (show Wb.mergeL a b = (Wb.mergeL (a.drop (p + 1)) (b.drop q)).map ((done ++ [⟨xp, xs, xn⟩]) ++ ·) by rw [HMG.out, HDX.out, HQE.out, List.drop_length, Wb.step_x (.inl rfl), Wb.map_done])
        go_wp2_with fail
        go_quiet (fail)
        go_wp2_with fail
        refine wp_at fun w5 hww5 => ?_
        have hew5 : Wb.Ext wr w5 := by rw [hww5]; (repeat' (first | (with_reducible assumption) | (with_reducible exact Wb.Ext.refl _) | (with_reducible refine Wb.Ext.drew ?_) | (with_reducible refine Wb.Ext.drewN ?_ _) | (with_reducible refine Wb.Ext.alloc ?_ _) | (with_reducible refine Wb.Ext.trans ?_ (by assumption))))
        clear hww5
        have a2 := hew5.keep a2
        have b2 := hew5.keep b2
        have x0 := hew5.keep x0
        have x1 := hew5.keep x1
        have x2 := hew5.keep x2
        have hc0 := hew5.keep hc0
        have hc1 := hew5.keep hc1
        have hc2 := hew5.keep hc2
        have q0 := hew5.keep q0
        have q1 := hew5.keep q1
        have q2 := hew5.keep q2
        have hcf : ∀ j, w5.frozen? ⟨wo.heap.size, j, none⟩ = false := fun j => (Below.frozen hew5 (by simp; omega)).trans (hcf j)
        have qf : ∀ j, w5.frozen? ⟨w.heap.size + 1 + 1, j, none⟩ = false := fun j => (Below.frozen hew5 (by simp; omega)).trans (qf j)
        have HO := Lib.hid (row_ext HO.out hew5)
        have hext : Wb.Ext wo w5 := hext.trans hew5
        have hew : Wb.Ext w w5 := hew.trans hew5
        have hzr := Wb.cell_size hc0
        clear hew5
        obtain ⟨hi1, hi2, hi3, hi4⟩ := HIN.out
        have hsz9 : wo.heap.size + 1 ≤ w5.heap.size := by omega
        go_region_law ((refine step_append_lies _ (by rfl) _ _ _ (by rfl) (wo.heap.size + 1) 44 i0 (.agg #[.int .i64 0, .string "".toUTF8, .int .i64 0]) 3 32 Try.underlying22 hi1 hi2 hi3 hi4 (by rfl) (by decide) _ _ _ (by rfl) (HO.out.alloc _) _ 1 _ (lnv ⟨xp, xs, xn⟩) (by rfl) (by rfl) (World.news_of_block (heap_alloc_new _ _)) (by intro r hr; simp [lnv] at hr; rcases hr with rfl | rfl | rfl <;> rfl) (by decide) (by unfold maxLen; omega) (by omega) (by simp; omega) (w5.heap.size + 1) (by simp) ?_; intro g cap2 w4 hown4 hg4 hat4 hlt4; have g2 : w4.cell? ⟨wo.heap.size, 2, none⟩ = some (.slice oa done.length oc) := (hg4.cell_far _ (by simp; omega) hne).trans (Wb.Ext.keep (by (repeat' (first | (with_reducible assumption) | (with_reducible exact Wb.Ext.refl _) | (with_reducible refine Wb.Ext.drew ?_) | (with_reducible refine Wb.Ext.drewN ?_ _) | (with_reducible refine Wb.Ext.alloc ?_ _) | (with_reducible refine Wb.Ext.trans ?_ (by assumption))))) hc2); have g0 : w4.cell? ⟨wo.heap.size, 0, none⟩ = some (.int .i64 y) := (hg4.cell_far _ (by simp; omega) hne).trans (Wb.Ext.keep (by (repeat' (first | (with_reducible assumption) | (with_reducible exact Wb.Ext.refl _) | (with_reducible refine Wb.Ext.drew ?_) | (with_reducible refine Wb.Ext.drewN ?_ _) | (with_reducible refine Wb.Ext.alloc ?_ _) | (with_reducible refine Wb.Ext.trans ?_ (by assumption))))) hc0); have g1 : w4.cell? ⟨wo.heap.size, 1, none⟩ = some (.int .i64 i) := (hg4.cell_far _ (by simp; omega) hne).trans (Wb.Ext.keep (by (repeat' (first | (with_reducible assumption) | (with_reducible exact Wb.Ext.refl _) | (with_reducible refine Wb.Ext.drew ?_) | (with_reducible refine Wb.Ext.drewN ?_ _) | (with_reducible refine Wb.Ext.alloc ?_ _) | (with_reducible refine Wb.Ext.trans ?_ (by assumption))))) hc1); have gf : ∀ j, w4.frozen? ⟨wo.heap.size, j, none⟩ = false := fun j => (hg4.frozen_far _ (by simp; omega) hne).trans ((Below.frozen (show Wb.Ext w5 _ by (repeat' (first | (with_reducible assumption) | (with_reducible exact Wb.Ext.refl _) | (with_reducible refine Wb.Ext.drew ?_) | (with_reducible refine Wb.Ext.drewN ?_ _) | (with_reducible refine Wb.Ext.alloc ?_ _) | (with_reducible refine Wb.Ext.trans ?_ (by assumption))))) (by simp; omega)).trans (hcf j)); have hE4 : Wb.Ext wo w4 := Wb.Ext.grown (show Wb.Ext wo _ by (repeat' (first | (with_reducible assumption) | (with_reducible exact Wb.Ext.refl _) | (with_reducible refine Wb.Ext.drew ?_) | (with_reducible refine Wb.Ext.drewN ?_ _) | (with_reducible refine Wb.Ext.alloc ?_ _) | (with_reducible refine Wb.Ext.trans ?_ (by assumption))))) hg4 (fun r hr => by have := HO.out.lt r hr; omega)))
        all_goals
          have hE5 := ext_set hE4 (p := ⟨wo.heap.size, 2, none⟩) (by simp) (.slice (some ⟨g, 0, none⟩) (done.length + 1) cap2)
          have HO4 := Lib.hid (row_set hown4 (p := ⟨wo.heap.size, 2, none⟩) (by simp) (.slice (some ⟨g, 0, none⟩) (done.length + 1) cap2))
          clear hown4 hg4 hat4 hlt4 hE4
          go_wp2
          go_roundw
          case rel =>
            refine ⟨p + 1, q, done ++ [⟨xp, xs, xn⟩], .slice (some ⟨g, 0, none⟩) (done.length + 1) cap2, by go_num, by go_num, by omega, by omega, by simp only [List.length_append, List.length_cons, List.length_nil]; omega, ?_, HSTEP.out, by simp [go_sem, g0], by simp [go_sem, g1], by simp [go_sem, g2], by intro j; simp [go_sem, gf], hE5⟩
            simpa [lnvs_app, lnvs] using HO4.out
          case measure => simp [intOf] <;> omega
    · have hpe : p = a.length := by omega
      have HPE := Lib.hid hpe
      have hpd : decide ((p : Int) < a.length) = false := by simp; omega
      have hpb : ((p : Int) == a.length) = true := by simp [hpe]
      clear hpe
      by_cases hql : q < b.length
      · obtain ⟨z, hz⟩ := Wb.get_ex hql
        obtain ⟨bz, oz, rfl, hcz⟩ := HV.out.opened (ne_of_lt hql)
        obtain ⟨z0', z1', z2'⟩ := hcz q z hz
        have z0 := hew.keep z0'
        have z1 := hew.keep z1'
        have z2 := hew.keep z2'
        have hzb := Wb.cell_size z0'
        have hqi : (q : Int) < b.length := by omega
        have hqd : decide ((q : Int) < b.length) = true := by simpa using hql
        have hqe : ((q : Int) == b.length) = false := by simp; omega
        have HDZ := Lib.hid (Wb.drop_get hz)
        have HZE := Lib.hid (Wb.lineErr_ok (HYL.out z (List.mem_of_getElem? hz)))
        clear hcz hz
        obtain ⟨zp, zs, zn⟩ := z
        simp only at z0 z1 z2 z0' z1' z2'
        have HSTEP := Lib.hid (show Wb.mergeL a b = (Wb.mergeL (a.drop p) (b.drop (q + 1))).map ((done ++ [⟨zp, zs, zn⟩]) ++ ·) by rw [HMG.out, HDZ.out, HPE.out, List.drop_length, Wb.step_y (.inl rfl), Wb.map_done])
        go_wp2_with fail
        go_quiet (fail)
        go_wp2_with fail
        go_quiet (fail)
        go_wp2_with fail
        refine wp_at fun w5 hww5 => ?_
        have hew5 : Wb.Ext wr w5 := by rw [hww5]; (repeat' (first | (with_reducible assumption) | (with_reducible exact Wb.Ext.refl _) | (with_reducible refine Wb.Ext.drew ?_) | (with_reducible refine Wb.Ext.drewN ?_ _) | (with_reducible refine Wb.Ext.alloc ?_ _) | (with_reducible refine Wb.Ext.trans ?_ (by assumption))))
        clear hww5
        have a2 := hew5.keep a2
        have b2 := hew5.keep b2
        have z0 := hew5.keep z0
        have z1 := hew5.keep z1
        have z2 := hew5.keep z2
        have hc0 := hew5.keep hc0
        have hc1 := hew5.keep hc1
        have hc2 := hew5.keep hc2
        have q0 := hew5.keep q0
        have q1 := hew5.keep q1
        have q2 := hew5.keep q2
        have hcf : ∀ j, w5.frozen? ⟨wo.heap.size, j, none⟩ = false := fun j => (Below.frozen hew5 (by simp; omega)).trans (hcf j)
        have qf : ∀ j, w5.frozen? ⟨w.heap.size + 1 + 1, j, none⟩ = false := fun j => (Below.frozen hew5 (by simp; omega)).trans (qf j)
        have HO := Lib.hid (row_ext HO.out hew5)
        have hext : Wb.Ext wo w5 := hext.trans hew5
        have hew : Wb.Ext w w5 := hew.trans hew5
        have hzr := Wb.cell_size hc0
        clear hew5
        obtain ⟨hi1, hi2, hi3, hi4⟩ := HIN.out
        have hsz9 : wo.heap.size + 1 ≤ w5.heap.size := by omega
        go_region_law ((refine step_append_lies _ (by rfl) _ _ _ (by rfl) (wo.heap.size + 1) 44 i0 (.agg #[.int .i64 0, .string "".toUTF8, .int .i64 0]) 3 32 Try.underlying22 hi1 hi2 hi3 hi4 (by rfl) (by decide) _ _ _ (by rfl) (HO.out.alloc _) _ 1 _ (lnv ⟨zp, zs, zn⟩) (by rfl) (by rfl) (World.news_of_block (heap_alloc_new _ _)) (by intro r hr; simp [lnv] at hr; rcases hr with rfl | rfl | rfl <;> rfl) (by decide) (by unfold maxLen; omega) (by omega) (by simp; omega) (w5.heap.size + 1) (by simp) ?_; intro g cap2 w4 hown4 hg4 hat4 hlt4; have g2 : w4.cell? ⟨wo.heap.size, 2, none⟩ = some (.slice oa done.length oc) := (hg4.cell_far _ (by simp; omega) hne).trans (Wb.Ext.keep (by (repeat' (first | (with_reducible assumption) | (with_reducible exact Wb.Ext.refl _) | (with_reducible refine Wb.Ext.drew ?_) | (with_reducible refine Wb.Ext.drewN ?_ _) | (with_reducible refine Wb.Ext.alloc ?_ _) | (with_reducible refine Wb.Ext.trans ?_ (by assumption))))) hc2); have g0 : w4.cell? ⟨wo.heap.size, 0, none⟩ = some (.int .i64 y) := (hg4.cell_far _ (by simp; omega) hne).trans (Wb.Ext.keep (by (repeat' (first | (with_reducible assumption) | (with_reducible exact Wb.Ext.refl _) | (with_reducible refine Wb.Ext.drew ?_) | (with_reducible refine Wb.Ext.drewN ?_ _) | (with_reducible refine Wb.Ext.alloc ?_ _) | (with_reducible refine Wb.Ext.trans ?_ (by assumption))))) hc0); have g1 : w4.cell? ⟨wo.heap.size, 1, none⟩ = some (.int .i64 i) := (hg4.cell_far _ (by simp; omega) hne).trans (Wb.Ext.keep (by (repeat' (first | (with_reducible assumption) | (with_reducible exact Wb.Ext.refl _) | (with_reducible refine Wb.Ext.drew ?_) | (with_reducible refine Wb.Ext.drewN ?_ _) | (with_reducible refine Wb.Ext.alloc ?_ _) | (with_reducible refine Wb.Ext.trans ?_ (by assumption))))) hc1); have gf : ∀ j, w4.frozen? ⟨wo.heap.size, j, none⟩ = false := fun j => (hg4.frozen_far _ (by simp; omega) hne).trans ((Below.frozen (show Wb.Ext w5 _ by (repeat' (first | (with_reducible assumption) | (with_reducible exact Wb.Ext.refl _) | (with_reducible refine Wb.Ext.drew ?_) | (with_reducible refine Wb.Ext.drewN ?_ _) | (with_reducible refine Wb.Ext.alloc ?_ _) | (with_reducible refine Wb.Ext.trans ?_ (by assumption))))) (by simp; omega)).trans (hcf j)); have hE4 : Wb.Ext wo w4 := Wb.Ext.grown (show Wb.Ext wo _ by (repeat' (first | (with_reducible assumption) | (with_reducible exact Wb.Ext.refl _) | (with_reducible refine Wb.Ext.drew ?_) | (with_reducible refine Wb.Ext.drewN ?_ _) | (with_reducible refine Wb.Ext.alloc ?_ _) | (with_reducible refine Wb.Ext.trans ?_ (by assumption))))) hg4 (fun r hr => by have := HO.out.lt r hr; omega)))
        all_goals
          have hE5 := ext_set hE4 (p := ⟨wo.heap.size, 2, none⟩) (by simp) (.slice (some ⟨g, 0, none⟩) (done.length + 1) cap2)
          have HO4 := Lib.hid (row_set hown4 (p := ⟨wo.heap.size, 2, none⟩) (by simp) (.slice (some ⟨g, 0, none⟩) (done.length + 1) cap2))
          clear hown4 hg4 hat4 hlt4 hE4
          go_wp2
          go_roundw
          case rel =>
            refine ⟨p, q + 1, done ++ [⟨zp, zs, zn⟩], .slice (some ⟨g, 0, none⟩) (done.length + 1) cap2, by go_num, by go_num, by omega, by omega, by simp only [List.length_append, List.length_cons, List.length_nil]; omega, ?_, HSTEP.out, by simp [go_sem, g0], by simp [go_sem, g1], by simp [go_sem, g2], by intro j; simp [go_sem, gf], hE5⟩
            simpa [lnvs_app, lnvs] using HO4.out
          case measure => simp [intOf] <;> omega
      · have hqe : q = b.length := by omega
        have HQE := Lib.hid hqe
        have hqd : decide ((q : Int) < b.length) = false := by simp; omega
        clear hqe
        have HD := Lib.hid (show Wb.mergeL a b = some done by rw [HMG.out, HPE.out, HQE.out, List.drop_length, List.drop_length, Wb.mergeL]; simp)
        by_cases hbig : 448 < done.length
        · have hbigi : (448 : Int) < done.length := by omega
          have HM := Lib.hid (show Wb.merge y i a y' i' b = (5, 0, 0, []) by rw [HMB.out, HD.out]; simp only; rw [if_pos hbig])
          go_wp2
          refine bodyPost_ret (v := .tuple #[.agg #[.int .i64 0, .int .i64 0, .slice none 0 0], .int .i64 5]) (by simp [results, Try.results53, go_sem, q0, q1, q2]) rfl ⟨.slice none 0 0, by rw [HM.out] <;> rfl, by rw [HM.out]; exact .inl ⟨rfl, _, _, rfl⟩, (fun q hq => by cases hq), ext_set (ext_set (ext_set hew (by simp; omega) _) (by simp; omega) _) (by simp; omega) _⟩
        · have dbig : decide ((448 : Int) < done.length) = false := by simp; omega
          have HM := Lib.hid (show Wb.merge y i a y' i' b = (0, y, i, done) by rw [HMB.out, HD.out]; simp only; rw [if_neg hbig])
          have hes := ext_set (ext_set (ext_set hew (p := ⟨w.heap.size + 1 + 1, 0, none⟩) (by simp; omega) (.int .i64 y)) (p := ⟨w.heap.size + 1 + 1, 1, none⟩) (by simp; omega) (.int .i64 i)) (p := ⟨w.heap.size + 1 + 1, 2, none⟩) (by simp; omega) (.slice oa done.length oc)
          go_wp2
          refine bodyPost_ret (v := .tuple #[.agg #[.int .i64 y, .int .i64 i, .slice oa done.length oc], .int .i64 0]) (by simp [results, Try.results53, go_sem, q0, q1, q2]) rfl ⟨.slice oa done.length oc, by rw [HM.out] <;> rfl, by rw [HM.out]; exact lns_of_row (row_set (row_set (row_set HO.out (by simp; omega) _) (by simp; omega) _) (by simp; omega) _), (fun q hq => by have := (HO.out.lt q hq).1; first | omega | (simp at this; omega)), hes⟩

theorem rmerge_any (y i y' i' : Int) (u v : Value) (a b : List Wb.Ln) (w : World) (hu : Lns w u a) (hv : Lns w v b) (hsa : Sized a) (hsb : Sized b) :
    Calls Try.prog 53 #[.agg #[.int .i64 y, .int .i64 i, u], .agg #[.int .i64 y', .int .i64 i', v]] w fun e w' => ∃ m, e = .returned (.tuple #[.agg #[.int .i64 (Wb.merge y i a y' i' b).2.1, .int .i64 (Wb.merge y i a y' i' b).2.2.1, m], .int .i64 (Wb.merge y i a y' i' b).1]) ∧ Lns w' m (Wb.merge y i a y' i' b).2.2.2 ∧ Wb.Ext w w' :=
  (rmergef_any y i y' i' u v a b w hu hv hsa hsb).mono fun _ _ ⟨m, h1, h2, _, h3⟩ => ⟨m, h1, h2, h3⟩

end Go.Proofs.Ytdfmlgjemfcmlaa
