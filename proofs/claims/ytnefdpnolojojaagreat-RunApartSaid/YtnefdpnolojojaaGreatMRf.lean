/- Several texts in one. -/
import Derived.Test.YtnefdpnolojojaaGreatMRd
import Derived.Deep.RegionHeldLaw
import Derived.Deep.RegionHeld3
/- Chapter 31's reference: slips that are the same, lists of such. -/
namespace Go.Proofs.YtnefdpnolojojaaGreat
open Go.RowKit
set_option maxRecDepth 8000
attribute [local go_sem ↓] Go.wp_at_zero Go.wp_at_succ

/-- slips of the same lines are the same -/
theorem same31_eq (y i : Int) (u v : Value) (l : List Wb.Ln) (w : World) (hu : Lns w u l) (hv : Lns w v l) (hs : Sized l) :
    Calls Tryz.prog 53 #[.agg #[.int .i64 y, .int .i64 i, u], .agg #[.int .i64 y, .int .i64 i, v]] w fun e w' => e = .returned (.bool true) ∧ Wb.Ext w w' := by
  obtain ⟨a, cap, rfl⟩ := hu.shape
  obtain ⟨b, cap2, rfl⟩ := hv.shape
  have HU := Lib.hid hu; clear hu
  have HV := Lib.hid hv; clear hv
  have hlen := hs.1
  clear hs
  go_enter Tryz.func53, Tryz.ntmps53
  go_wp2
  have hb0 : ((w.alloc (.cells #[.int .i64 y, .int .i64 i, .slice a l.length cap] 38)).alloc (.cells #[.int .i64 y, .int .i64 i, .slice b l.length cap2] 38)).cell? ⟨w.heap.size, 2, none⟩ = some (.slice a l.length cap) := by simp [go_sem]
  have hb1 : ((w.alloc (.cells #[.int .i64 y, .int .i64 i, .slice a l.length cap] 38)).alloc (.cells #[.int .i64 y, .int .i64 i, .slice b l.length cap2] 38)).cell? ⟨w.heap.size + 1, 2, none⟩ = some (.slice b l.length cap2) := by simp [go_sem]
  go_loopw [5] (fun iv wr => ∃ k : Nat, k ≤ l.length ∧ iv = .int .i64 k ∧ Wb.Ext ((w.alloc (.cells #[.int .i64 y, .int .i64 i, .slice a l.length cap] 38)).alloc (.cells #[.int .i64 y, .int .i64 i, .slice b l.length cap2] 38)) wr) (fun iv _ => l.length - (intOf iv).toNat)
  case atStart => exact ⟨0, by omega, rfl, by (repeat' (first | (with_reducible assumption) | (with_reducible exact Wb.Ext.refl _) | (with_reducible refine Wb.Ext.drew ?_) | (with_reducible refine Wb.Ext.drewN ?_ _) | (with_reducible refine Wb.Ext.alloc ?_ _) | (with_reducible refine Wb.Ext.trans ?_ (by assumption))))⟩
  case round =>
    obtain ⟨k, hk, rfl, hext⟩ := hrel
    have hc0 := hext.keep hb0
    have hc1 := hext.keep hb1
    have hz1 := Wb.cell_size hc1
    have hz0 : w.heap.size < wr.heap.size := by omega
    have hew : Wb.Ext w wr := by (repeat' (first | (with_reducible assumption) | (with_reducible exact Wb.Ext.refl _) | (with_reducible refine Wb.Ext.drew ?_) | (with_reducible refine Wb.Ext.drewN ?_ _) | (with_reducible refine Wb.Ext.alloc ?_ _) | (with_reducible refine Wb.Ext.trans ?_ (by assumption))))
    by_cases hlt : k < l.length
    · obtain ⟨x, hx⟩ := Wb.get_ex hlt
      have hlti : (k : Int) < l.length := by omega
      obtain ⟨ba, oa, rfl, hca⟩ := (HU.out.ext hew).opened (ne_of_lt hlt)
      obtain ⟨bb, ob, rfl, hcb⟩ := (HV.out.ext hew).opened (ne_of_lt hlt)
      obtain ⟨hp1, hp2, hp3⟩ := hca k x hx
      obtain ⟨hq1, hq2, hq3⟩ := hcb k x hx
      clear hca hcb hx
      obtain ⟨xp, xc, xn⟩ := x
      simp only at hp1 hp2 hp3 hq1 hq2 hq3
      go_wp2_with fail
      go_region_held3 (fun w' => w'.cell? ⟨w.heap.size, 2, none⟩ = some (.slice (some ⟨ba, oa, none⟩) l.length cap) ∧ w'.cell? ⟨w.heap.size + 1, 2, none⟩ = some (.slice (some ⟨bb, ob, none⟩) l.length cap2) ∧ w'.cell? ⟨ba, oa + k * 3, none⟩ = some (.int .i64 xp) ∧ w'.cell? ⟨ba, oa + k * 3 + 1, none⟩ = some (.string (Wb.S xc)) ∧ w'.cell? ⟨ba, oa + k * 3 + 2, none⟩ = some (.int .i64 xn) ∧ w'.cell? ⟨bb, ob + k * 3, none⟩ = some (.int .i64 xp) ∧ w'.cell? ⟨bb, ob + k * 3 + 1, none⟩ = some (.string (Wb.S xc)) ∧ w'.cell? ⟨bb, ob + k * 3 + 2, none⟩ = some (.int .i64 xn)) (first | exact ⟨hc0, hc1, hp1, hp2, hp3, hq1, hq2, hq3⟩ | assumption | go_keep) (fail)
      go_wp2
      go_roundw
      case rel => exact ⟨k + 1, by omega, by go_num, by (repeat' (first | (with_reducible assumption) | (with_reducible exact Wb.Ext.refl _) | (with_reducible refine Wb.Ext.drew ?_) | (with_reducible refine Wb.Ext.drewN ?_ _) | (with_reducible refine Wb.Ext.alloc ?_ _) | (with_reducible refine Wb.Ext.trans ?_ (by assumption))))⟩
      case measure => simp [intOf]; omega
    · go_wp2
      go_ret
      exact ⟨rfl, by (repeat' (first | (with_reducible assumption) | (with_reducible exact Wb.Ext.refl _) | (with_reducible refine Wb.Ext.drew ?_) | (with_reducible refine Wb.Ext.drewN ?_ _) | (with_reducible refine Wb.Ext.alloc ?_ _) | (with_reducible refine Wb.Ext.trans ?_ (by assumption))))⟩


theorem ct_at31 {R S : List Wb.Sl} (h : R.map Wb.ct = S.map Wb.ct) {k : Nat} {s : Wb.Sl} (hs : R[k]? = some s) : ∃ v, S[k]? = some ⟨s.y, s.i, v, s.l⟩ := by
  have h1 : (R.map Wb.ct)[k]? = some (Wb.ct s) := by rw [List.getElem?_map, hs]; rfl
  rw [h, List.getElem?_map] at h1
  rcases hS : S[k]? with _ | t
  · rw [hS] at h1; cases h1
  · rw [hS] at h1
    simp only [Option.map_some, Option.some.injEq, Wb.ct, Prod.mk.injEq] at h1
    obtain ⟨ty, ti, tv, tl⟩ := t
    simp only at h1
    obtain ⟨rfl, rfl, rfl⟩ := h1
    exact ⟨tv, rfl⟩
/-- lists of the same slips are the same -/
theorem all31_eq (u v : Value) (L K : List Wb.Sl) (w : World) (hu : Sls w u L) (hv : Sls w v K) (hc : L.map Wb.ct = K.map Wb.ct) (hl : L.length ≤ 100000) :
    Calls Tryz.prog 24 #[u, v] w fun e w' => e = .returned (.bool true) ∧ Wb.Ext w w' := by
  obtain ⟨a, ac, rfl⟩ := hu.1.shape
  obtain ⟨b, bc, rfl⟩ := hv.1.shape
  have hlen : K.length = L.length := by have := congrArg List.length hc; simpa using this.symm
  have HU := Lib.hid hu; clear hu
  rw [hlen] at hv ⊢
  have HV := Lib.hid hv; clear hv
  have HC := Lib.hid hc; clear hc
  have HLEN := Lib.hid hlen; clear hlen
  have hne : ((L.length : Int) != (L.length : Int)) = false := by simp
  go_enter Tryz.func24, Tryz.ntmps24
  go_wp2_with fail
  go_loopw [5] (fun iv wr => ∃ k : Nat, k ≤ L.length ∧ iv = .int .i64 k ∧ Hid (Wb.Ext w wr)) (fun iv _ => L.length - (intOf iv).toNat)
  case atStart => exact ⟨0, Nat.zero_le _, rfl, Lib.hid (.refl _)⟩
  case round =>
    obtain ⟨k, hk, rfl, HX⟩ := hrel
    obtain ⟨wO, hwz⟩ : ∃ z, z = wr := ⟨_, rfl⟩
    subst hwz
    by_cases hlt : k < L.length
    case neg =>
      obtain rfl : k = L.length := by omega
      have d1 : decide ((L.length : Int) < (L.length : Int)) = false := by simp
      go_wp2
      exact bodyPost_ret (v := .bool true) (by simp [results, Tryz.results24, go_sem]) rfl ⟨rfl, HX.out⟩
    obtain ⟨s, hs⟩ := Wb.get_ex hlt
    obtain ⟨tv, ht⟩ := ct_at31 HC.out hs
    obtain ⟨ba, oa, rfl, x0, x1, x2⟩ := (HU.out.ext HX.out).cells hs
    have hvc := (HV.out.ext HX.out)
    rw [← HLEN.out] at hvc
    obtain ⟨bb, ob, rfl, y0, y1, y2⟩ := hvc.cells ht
    have HS1 := Lib.hid ((HU.out.ext HX.out).2 s (List.mem_of_getElem? hs))
    have HS2 := Lib.hid (hvc.2 _ (List.mem_of_getElem? ht)).1
    obtain ⟨sa, sc, hsv⟩ := HS1.out.1.1.shape
    obtain ⟨ta, tc, htv⟩ := HS2.out.1.shape
    simp only at htv y0 y1 y2
    subst htv
    rw [hsv] at x2
    have HS3 := Lib.hid (show Lns wO (.slice sa s.l.length sc) s.l by rw [← hsv]; exact HS1.out.1.1)
    have d1 : decide ((k : Int) < (L.length : Int)) = true := by simp; omega
    have hki : (k : Int) < (L.length : Int) := by omega
    have l0 : ∀ x, Wb.Ext wO x → x.cell? ⟨ba, oa + k * 3, none⟩ = some (.int .i64 s.y) := fun x h => h.keep x0
    have l1 : ∀ x, Wb.Ext wO x → x.cell? ⟨ba, oa + k * 3 + 1, none⟩ = some (.int .i64 s.i) := fun x h => h.keep x1
    have l2 : ∀ x, Wb.Ext wO x → x.cell? ⟨ba, oa + k * 3 + 2, none⟩ = some (.slice sa s.l.length sc) := fun x h => h.keep x2
    have m0 : ∀ x, Wb.Ext wO x → x.cell? ⟨bb, ob + k * 3, none⟩ = some (.int .i64 s.y) := fun x h => h.keep y0
    have m1 : ∀ x, Wb.Ext wO x → x.cell? ⟨bb, ob + k * 3 + 1, none⟩ = some (.int .i64 s.i) := fun x h => h.keep y1
    have m2 : ∀ x, Wb.Ext wO x → x.cell? ⟨bb, ob + k * 3 + 2, none⟩ = some (.slice ta s.l.length tc) := fun x h => h.keep y2
    clear hs ht hvc hsv hlt x0 x1 x2 y0 y1 y2
    go_wp2_with fail
    go_region_held_law (fun x => Wb.Ext wO x) ((repeat' (first | (with_reducible assumption) | (with_reducible exact Wb.Ext.refl _) | (with_reducible refine Wb.Ext.drew ?_) | (with_reducible refine Wb.Ext.drewN ?_ _) | (with_reducible refine Wb.Ext.alloc ?_ _) | (with_reducible refine Wb.Ext.trans ?_ (by assumption))))) ((go_at_call 53; refine (same31_eq s.y s.i _ _ s.l _ (HS3.out.ext (by (repeat' (first | (with_reducible assumption) | (with_reducible exact Wb.Ext.refl _) | (with_reducible refine Wb.Ext.drew ?_) | (with_reducible refine Wb.Ext.drewN ?_ _) | (with_reducible refine Wb.Ext.alloc ?_ _) | (with_reducible refine Wb.Ext.trans ?_ (by assumption)))))) (HS2.out.1.ext (by (repeat' (first | (with_reducible assumption) | (with_reducible exact Wb.Ext.refl _) | (with_reducible refine Wb.Ext.drew ?_) | (with_reducible refine Wb.Ext.drewN ?_ _) | (with_reducible refine Wb.Ext.alloc ?_ _) | (with_reducible refine Wb.Ext.trans ?_ (by assumption)))))) HS1.out.2).mono ?_; rintro e w7 ⟨rfl, hx7⟩))
    all_goals
      go_wp2
      go_roundw
      case rel => exact ⟨k + 1, by omega, by go_num, Lib.hid (HX.out.trans (by (repeat' (first | (with_reducible assumption) | (with_reducible exact Wb.Ext.refl _) | (with_reducible refine Wb.Ext.drew ?_) | (with_reducible refine Wb.Ext.drewN ?_ _) | (with_reducible refine Wb.Ext.alloc ?_ _) | (with_reducible refine Wb.Ext.trans ?_ (by assumption))))))⟩
      case measure => first | (simp [intOf]; done) | (simp [intOf]; omega)
end Go.Proofs.YtnefdpnolojojaaGreat
/- Chapter 31's reference: Full. -/
namespace Go.Proofs.YtnefdpnolojojaaGreat
open Go.RowKit Go.Sort Go.Lib Go.Maps
set_option maxRecDepth 8000
attribute [local go_sem ↓] Go.wp_at_zero Go.wp_at_succ

end Go.Proofs.YtnefdpnolojojaaGreat
/- Chapter 31's laws: same, like: runs of the same rows are the same. -/
namespace Go.Proofs.YtnefdpnolojojaaGreat
open Go.RowKit Go.Sort Go.Lib Go.Maps
set_option maxRecDepth 8000
attribute [local go_sem ↓] Go.wp_at_zero Go.wp_at_succ

theorem rw_at {R T : List RwM} (h : R.map RwM.c = T.map RwM.c) {k : Nat} {r : RwM} (hr : R[k]? = some r) : ∃ t, T[k]? = some t ∧ r.c = t.c := by
  have h1 : (R.map RwM.c)[k]? = some r.c := by rw [List.getElem?_map, hr]; rfl
  rw [h, List.getElem?_map] at h1
  rcases hT : T[k]? with _ | t
  · rw [hT] at h1; cases h1
  · rw [hT] at h1
    exact ⟨t, rfl, (Option.some.inj h1).symm⟩
/-- a row's box -/
def RowB (w : World) (b : Nat) (p y i : Int) (nv bv : Value) (due paid owed : Int) : Prop := w.cell? ⟨b, 0, none⟩ = some (.int .u32 p) ∧ w.cell? ⟨b, 1, none⟩ = some (.int .i64 y) ∧ w.cell? ⟨b, 2, none⟩ = some (.int .i64 i) ∧ w.cell? ⟨b, 3, none⟩ = some nv ∧ w.cell? ⟨b, 4, none⟩ = some bv ∧ w.cell? ⟨b, 5, none⟩ = some (.int .i64 due) ∧ w.cell? ⟨b, 6, none⟩ = some (.int .i64 paid) ∧ w.cell? ⟨b, 7, none⟩ = some (.int .i64 owed)
set_option maxHeartbeats 16000000 in
theorem same31r_eq (n y i k : Int) (u v : Value) (R T : List RwM) (w : World) (hu : RowsM w u R) (hv : RowsM w v T) (hc : R.map RwM.c = T.map RwM.c) :
    Calls Tryz.prog 22 #[RnV n y i k u, RnV n y i k v] w fun e w' => e = .returned (.bool true) ∧ Wb.Ext w w' := by
  obtain ⟨a, ac, rfl⟩ := hu.tab.shape
  obtain ⟨b, bc, rfl⟩ := hv.tab.shape
  have hlen : T.length = R.length := by have := congrArg List.length hc; simpa using this.symm
  have hrl := hu.many
  have HU := Lib.hid hu; clear hu
  rw [hlen] at hv ⊢
  have HV := Lib.hid hv; clear hv
  have HC := Lib.hid hc; clear hc
  have HLEN := Lib.hid hlen; clear hlen
  have q1 : ((n : Int) != n) = false := by simp
  have q2 : ((y : Int) != y) = false := by simp
  have q3 : ((i : Int) != i) = false := by simp
  have q4 : ((k : Int) != k) = false := by simp
  have q5 : ((R.length : Int) != (R.length : Int)) = false := by simp
  unfold RnV
  go_enter Tryz.func22, Tryz.ntmps22
  go_upto_region 3 with (fail)
  refine Wb.wp_at fun W0 hW0 => ?_
  obtain ⟨X, hX⟩ : ∃ X, w.heap.size = X := ⟨_, rfl⟩
  have x4 : W0.cell? ⟨X, 4, none⟩ = some (.slice a R.length ac) := by rw [hW0, ← hX]; simp [go_sem]
  have z4 : W0.cell? ⟨X + 1, 4, none⟩ = some (.slice b R.length bc) := by rw [hW0, ← hX]; simp [go_sem]
  have HX0 := Lib.hid (show Wb.Ext w W0 by rw [hW0]; (repeat' (first | (with_reducible assumption) | (with_reducible exact Wb.Ext.refl _) | (with_reducible refine Wb.Ext.drew ?_) | (with_reducible refine Wb.Ext.drewN ?_ _) | (with_reducible refine Wb.Ext.alloc ?_ _) | (with_reducible refine Wb.Ext.trans ?_ (by assumption)))))
  rw [hX]
  clear hW0 hX q1 q2 q3 q4 q5
  go_wp2_with fail
  go_loopw [5] (fun iv wr => ∃ j : Nat, j ≤ R.length ∧ iv = .int .i64 j ∧ Hid (Wb.Ext W0 wr)) (fun iv _ => R.length - (intOf iv).toNat)
  case atStart => exact ⟨0, Nat.zero_le _, rfl, Lib.hid (.refl _)⟩
  case round =>
    obtain ⟨j, hj, rfl, HX⟩ := hrel
    obtain ⟨wO, hwz⟩ : ∃ z, z = wr := ⟨_, rfl⟩
    subst hwz
    have x4 := HX.out.keep x4
    have z4 := HX.out.keep z4
    by_cases hlt : j < R.length
    case neg =>
      obtain rfl : j = R.length := by omega
      have d1 : decide ((R.length : Int) < (R.length : Int)) = false := by simp
      have HXF := Lib.hid (HX0.out.trans HX.out)
      go_wp2
      exact bodyPost_ret (v := .bool true) (by simp [results, Tryz.results22, go_sem]) rfl ⟨rfl, HXF.out⟩
    obtain ⟨r, hr⟩ := Wb.get_ex hlt
    obtain ⟨t, ht, hrt⟩ := rw_at HC.out hr
    have HE := Lib.hid (HX0.out.trans HX.out)
    have hur := HU.out.ext HE.out
    have hvr := HV.out.ext HE.out
    obtain ⟨ra, ro, hra, hrc⟩ := hur.tab.opened (by rintro rfl; simp at hr)
    obtain rfl : a = some ⟨ra, ro, none⟩ := hra
    have hvt := hvr.tab
    rw [← HLEN.out] at hvt
    obtain ⟨ta, tO, hta, htc⟩ := hvt.opened (by rintro rfl; simp at ht)
    obtain rfl : b = some ⟨ta, tO, none⟩ := hta
    have hmr := List.mem_of_getElem? hr
    have hmt := List.mem_of_getElem? ht
    obtain ⟨na, nc, hnv⟩ := (hur.each r hmr).now.1.shape
    obtain ⟨ba, bc9, hbv⟩ := (hur.each r hmr).back.1.shape
    obtain ⟨na', nc', hnv'⟩ := (hvr.each t hmt).now.1.shape
    obtain ⟨ba', bc', hbv'⟩ := (hvr.each t hmt).back.1.shape
    have e1 : t.p = r.p := (congrArg Wb.Rw.p hrt).symm
    have e2 : Wb.ct t.now = Wb.ct r.now := (congrArg Wb.Rw.now hrt).symm
    have e2y : t.now.y = r.now.y := congrArg (fun c : Wb.Ct => c.1) e2
    have e2i : t.now.i = r.now.i := congrArg (fun c : Wb.Ct => c.2.1) e2
    have e2l : t.now.l = r.now.l := congrArg (fun c : Wb.Ct => c.2.2) e2
    have e3 : r.back.map Wb.ct = t.back.map Wb.ct := congrArg Wb.Rw.back hrt
    have e3l : t.back.length = r.back.length := by have := congrArg List.length e3; simpa using this.symm
    have e4 : t.due = r.due := (congrArg Wb.Rw.due hrt).symm
    have e5 : t.paid = r.paid := (congrArg Wb.Rw.paid hrt).symm
    have e6 : t.owed = r.owed := (congrArg Wb.Rw.owed hrt).symm
    rw [e2l] at hnv'
    rw [e3l] at hbv'
    have p0 := hrc j r hr 0 _ rfl
    have p1 := hrc j r hr 1 _ rfl
    have p2 := hrc j r hr 2 _ rfl
    have p3 := hrc j r hr 3 (.slice na r.now.l.length nc) (by rw [← hnv]; rfl)
    have p4 := hrc j r hr 4 (.slice ba r.back.length bc9) (by rw [← hbv]; rfl)
    have p5 := hrc j r hr 5 _ rfl
    have p6 := hrc j r hr 6 _ rfl
    have p7 := hrc j r hr 7 _ rfl
    rw [Nat.add_zero] at p0
    have s0 := htc j t ht 0 (.int .u32 r.p) (by rw [← e1]; rfl)
    have s1 := htc j t ht 1 (.int .i64 r.now.y) (by rw [← e2y]; rfl)
    have s2 := htc j t ht 2 (.int .i64 r.now.i) (by rw [← e2i]; rfl)
    have s3 := htc j t ht 3 (.slice na' r.now.l.length nc') (by rw [← hnv']; rfl)
    have s4 := htc j t ht 4 (.slice ba' r.back.length bc') (by rw [← hbv']; rfl)
    have s5 := htc j t ht 5 (.int .i64 r.due) (by rw [← e4]; rfl)
    have s6 := htc j t ht 6 (.int .i64 r.paid) (by rw [← e5]; rfl)
    have s7 := htc j t ht 7 (.int .i64 r.owed) (by rw [← e6]; rfl)
    rw [Nat.add_zero] at s0
    have HN1 := Lib.hid (show Lns wO (.slice na r.now.l.length nc) r.now.l by rw [← hnv]; exact (hur.each r hmr).now.1)
    have HN2 := Lib.hid (show Lns wO (.slice na' r.now.l.length nc') r.now.l by rw [← hnv', ← e2l]; exact (hvr.each t hmt).now.1)
    have HNZ := Lib.hid (hur.each r hmr).sized
    have HB1 := Lib.hid (show Sls wO (.slice ba r.back.length bc9) r.back by rw [← hbv]; exact (hur.each r hmr).back)
    have HB2 := Lib.hid (show Sls wO (.slice ba' r.back.length bc') t.back by rw [← hbv']; exact (hvr.each t hmt).back)
    have HBC := Lib.hid e3
    have hbl := (hur.each r hmr).many
    have l0 : ∀ x, Wb.Ext wO x → x.cell? ⟨ra, ro + j * 8, none⟩ = some (.int .u32 r.p) := fun x h => h.keep p0
    have l1 : ∀ x, Wb.Ext wO x → x.cell? ⟨ra, ro + j * 8 + 1, none⟩ = some (.int .i64 r.now.y) := fun x h => h.keep p1
    have l2 : ∀ x, Wb.Ext wO x → x.cell? ⟨ra, ro + j * 8 + 2, none⟩ = some (.int .i64 r.now.i) := fun x h => h.keep p2
    have l3 : ∀ x, Wb.Ext wO x → x.cell? ⟨ra, ro + j * 8 + 3, none⟩ = some (.slice na r.now.l.length nc) := fun x h => h.keep p3
    have l4 : ∀ x, Wb.Ext wO x → x.cell? ⟨ra, ro + j * 8 + 4, none⟩ = some (.slice ba r.back.length bc9) := fun x h => h.keep p4
    have l5 : ∀ x, Wb.Ext wO x → x.cell? ⟨ra, ro + j * 8 + 5, none⟩ = some (.int .i64 r.due) := fun x h => h.keep p5
    have l6 : ∀ x, Wb.Ext wO x → x.cell? ⟨ra, ro + j * 8 + 6, none⟩ = some (.int .i64 r.paid) := fun x h => h.keep p6
    have l7 : ∀ x, Wb.Ext wO x → x.cell? ⟨ra, ro + j * 8 + 7, none⟩ = some (.int .i64 r.owed) := fun x h => h.keep p7
    have m0 : ∀ x, Wb.Ext wO x → x.cell? ⟨ta, tO + j * 8, none⟩ = some (.int .u32 r.p) := fun x h => h.keep s0
    have m1 : ∀ x, Wb.Ext wO x → x.cell? ⟨ta, tO + j * 8 + 1, none⟩ = some (.int .i64 r.now.y) := fun x h => h.keep s1
    have m2 : ∀ x, Wb.Ext wO x → x.cell? ⟨ta, tO + j * 8 + 2, none⟩ = some (.int .i64 r.now.i) := fun x h => h.keep s2
    have m3 : ∀ x, Wb.Ext wO x → x.cell? ⟨ta, tO + j * 8 + 3, none⟩ = some (.slice na' r.now.l.length nc') := fun x h => h.keep s3
    have m4 : ∀ x, Wb.Ext wO x → x.cell? ⟨ta, tO + j * 8 + 4, none⟩ = some (.slice ba' r.back.length bc') := fun x h => h.keep s4
    have m5 : ∀ x, Wb.Ext wO x → x.cell? ⟨ta, tO + j * 8 + 5, none⟩ = some (.int .i64 r.due) := fun x h => h.keep s5
    have m6 : ∀ x, Wb.Ext wO x → x.cell? ⟨ta, tO + j * 8 + 6, none⟩ = some (.int .i64 r.paid) := fun x h => h.keep s6
    have m7 : ∀ x, Wb.Ext wO x → x.cell? ⟨ta, tO + j * 8 + 7, none⟩ = some (.int .i64 r.owed) := fun x h => h.keep s7
    have xk : ∀ x, Wb.Ext wO x → x.cell? ⟨X, 4, none⟩ = some (.slice (some ⟨ra, ro, none⟩) R.length ac) := fun x h => h.keep x4
    have zk : ∀ x, Wb.Ext wO x → x.cell? ⟨X + 1, 4, none⟩ = some (.slice (some ⟨ta, tO, none⟩) R.length bc) := fun x h => h.keep z4
    have d1 : decide ((j : Int) < (R.length : Int)) = true := by simp; omega
    have hji : (j : Int) < (R.length : Int) := by omega
    obtain ⟨P, hP⟩ : ∃ P, r.p = P := ⟨_, rfl⟩
    clear hr ht hrt hur hvr hrc hvt htc hmr hmt hnv hbv hnv' hbv' e1 e2 e2y e2i e2l e3 e3l e4 e5 e6 p0 p1 p2 p3 p4 p5 p6 p7 s0 s1 s2 s3 s4 s5 s6 s7 hlt
    go_upto_region 6 with (fail)
    go_cut [6, 7] (fun c e wx => ∃ B1 B2 : Nat, c = .pointer (some ⟨B1, 0, none⟩) ∧ e = .pointer (some ⟨B2, 0, none⟩) ∧ RowB wx B1 r.p r.now.y r.now.i (.slice na r.now.l.length nc) (.slice ba r.back.length bc9) r.due r.paid r.owed ∧ RowB wx B2 r.p r.now.y r.now.i (.slice na' r.now.l.length nc') (.slice ba' r.back.length bc') r.due r.paid r.owed ∧ Wb.Ext wO wx)
    case first =>
      go_wp2_with fail
      go_region_held_law (fun x => Wb.Ext wO x) ((repeat' (first | (with_reducible assumption) | (with_reducible exact Wb.Ext.refl _) | (with_reducible refine Wb.Ext.drew ?_) | (with_reducible refine Wb.Ext.drewN ?_ _) | (with_reducible refine Wb.Ext.alloc ?_ _) | (with_reducible refine Wb.ext_set ?_ (by first | assumption | (simp; done) | (simp; omega) | omega) _) | (with_reducible refine Wb.Ext.trans ?_ (by assumption))))) (fail)
      all_goals go_wp2_with fail
      all_goals go_meet
      all_goals exact ⟨_, _, rfl, rfl, by unfold RowB; go_simp, by unfold RowB; go_simp, by (repeat' (first | (with_reducible assumption) | (with_reducible exact Wb.Ext.refl _) | (with_reducible refine Wb.Ext.drew ?_) | (with_reducible refine Wb.Ext.drewN ?_ _) | (with_reducible refine Wb.Ext.alloc ?_ _) | (with_reducible refine Wb.ext_set ?_ (by first | assumption | (simp; done) | (simp; omega) | omega) _) | (with_reducible refine Wb.Ext.trans ?_ (by assumption))))⟩
    case rest =>
      obtain ⟨B1, B2, rfl, rfl, ⟨f0, f1, f2, f3, f4, f5, f6, f7⟩, ⟨g0, g1, g2, g3, g4, g5, g6, g7⟩, hxO⟩ := hcut
      obtain ⟨wB, hwz⟩ : ∃ z, z = wc := ⟨_, rfl⟩
      subst hwz
      have HXB := Lib.hid hxO
      have q1 : ((r.p : Int) != r.p) = false := by simp
      have q2 : ((r.due : Int) != r.due) = false := by simp
      have q3 : ((r.paid : Int) != r.paid) = false := by simp
      have q4 : ((r.owed : Int) != r.owed) = false := by simp
      clear l0 l1 l2 l3 l4 l5 l6 l7 m0 m1 m2 m3 m4 m5 m6 m7 xk zk hxO hP
      go_wp2_with fail
      go_fit (same31_eq r.now.y r.now.i _ _ r.now.l _ (HN1.out.ext HXB.out) (HN2.out.ext HXB.out) HNZ.out); rintro e wC ⟨rfl, hxC⟩
      have f4 := hxC.keep f4
      have f5 := hxC.keep f5
      have f6 := hxC.keep f6
      have f7 := hxC.keep f7
      have g4 := hxC.keep g4
      have g5 := hxC.keep g5
      have g6 := hxC.keep g6
      have g7 := hxC.keep g7
      have HXC := Lib.hid hxC
      clear hxC f0 f1 f2 f3 g0 g1 g2 g3
      go_wp2_with fail
      go_fit (all31_eq _ _ r.back t.back _ (HB1.out.ext (HXB.out.trans HXC.out)) (HB2.out.ext (HXB.out.trans HXC.out)) HBC.out hbl); rintro e wE ⟨rfl, hxE⟩
      have f5 := hxE.keep f5
      have f6 := hxE.keep f6
      have f7 := hxE.keep f7
      have g5 := hxE.keep g5
      have g6 := hxE.keep g6
      have g7 := hxE.keep g7
      have HXE := Lib.hid (HX.out.trans (HXB.out.trans (HXC.out.trans hxE)))
      clear hxE f4 g4
      go_wp2
      go_roundw
      case rel => exact ⟨j + 1, by omega, by go_num, HXE⟩
      case measure => first | (simp [intOf]; done) | (simp [intOf]; omega)
end Go.Proofs.YtnefdpnolojojaaGreat
/- Chapter 31's laws: rows of a person; like. -/
namespace Go.Proofs.YtnefdpnolojojaaGreat
open Go.RowKit Go.Sort Go.Lib Go.Maps
set_option maxRecDepth 8000
attribute [local go_sem ↓] Go.wp_at_zero Go.wp_at_succ

def ofP (p : Int) (R : List RwM) : List RwM := R.filter fun r => decide (r.p = p)
theorem ofP_snoc {p : Int} {R : List RwM} {k : Nat} {r : RwM} (h : R[k]? = some r) : ofP p (R.take (k + 1)) = ofP p (R.take k) ++ (if r.p = p then [r] else []) := by
  unfold ofP
  rw [take_snoc h, List.filter_append]
  by_cases e : r.p = p <;> simp [e]
theorem ofP_mem {p : Int} {R : List RwM} {r : RwM} (h : r ∈ ofP p R) : r ∈ R := (List.mem_filter.1 h).1
set_option maxHeartbeats 8000000 in
theorem rowsp31_any (n y i k : Int) (v : Value) (R : List RwM) (p : Int) (w : World) (h : RowsM w v R) :
    Calls Tryz.prog 27 #[RnV n y i k v, .int .u32 p] w fun e w' => ∃ u, e = .returned u ∧ RowsM w' u (ofP p R) ∧ Wb.Ext w w' := by
  obtain ⟨va, vc, rfl⟩ := h.tab.shape
  have hrl := h.many
  have HU := Lib.hid h; clear h
  have HIN := Lib.hid (info_parts infoRow)
  unfold RnV
  go_enter Tryz.func27, Tryz.ntmps27
  go_upto_region 2 with (fail)
  refine Wb.wp_at fun W0 hW0 => ?_
  obtain ⟨X, hX⟩ : ∃ X, w.heap.size = X := ⟨_, rfl⟩
  have x4 : W0.cell? ⟨X, 4, none⟩ = some (.slice va R.length vc) := by rw [hW0, ← hX]; simp [go_sem]
  have HX0 := Lib.hid (show Wb.Ext w W0 by rw [hW0]; (repeat' (first | (with_reducible assumption) | (with_reducible exact Wb.Ext.refl _) | (with_reducible refine Wb.Ext.drew ?_) | (with_reducible refine Wb.Ext.drewN ?_ _) | (with_reducible refine Wb.Ext.alloc ?_ _) | (with_reducible refine Wb.Ext.trans ?_ (by assumption)))))
  have hX0 : X < W0.heap.size := by rw [hW0, ← hX]; simp
  have HXW := Lib.hid hX
  rw [hX]
  clear hW0 hX
  go_wp2_with fail
  go_loopw [6, 5] (fun iv ov wr => ∃ (j : Nat) (oa : Option Addr) (oc : Nat), j ≤ R.length ∧ iv = .int .i64 j ∧ ov = .slice oa (ofP p (R.take j)).length oc ∧ (ofP p (R.take j)).length ≤ j ∧ Hid (wr.ownsRow W0.heap.size 42 8 (.slice oa (ofP p (R.take j)).length oc) (ofP p (R.take j)).length (rowsOf rwc (ofP p (R.take j)))) ∧ Hid (Wb.Ext W0 wr)) (fun iv _ _ => R.length - (intOf iv).toNat)
  case atStart => exact ⟨0, none, 0, Nat.zero_le _, rfl, rfl, Nat.le_refl _, Lib.hid own_none, Lib.hid (.refl _)⟩
  case round =>
    obtain ⟨j, oa, oc, hj, rfl, rfl, hml, HO, HX⟩ := hrel
    obtain ⟨wO, hwz⟩ : ∃ z, z = wr := ⟨_, rfl⟩
    subst hwz
    have x4 := HX.out.keep x4
    have HE := Lib.hid (HX0.out.trans HX.out)
    by_cases hlt : j < R.length
    case neg =>
      obtain rfl : j = R.length := by omega
      have d1 : decide ((R.length : Int) < (R.length : Int)) = false := by simp
      have HF : Hid (RowsM wO (.slice oa (ofP p (R.take R.length)).length oc) (ofP p R)) := Lib.hid (by
        have ho := HO.out
        rw [List.take_length] at ho ⊢
        exact ⟨row_tbl rwc_len (by decide) ho, fun r hr => (HU.out.each r (ofP_mem hr)).ext HE.out, Nat.le_trans (List.length_filter_le _ _) hrl, fun r hr => HU.out.one r (ofP_mem hr)⟩)
      go_wp2
      exact bodyPost_ret (v := .slice oa (ofP p (R.take R.length)).length oc) (by simp [results, Tryz.results27, go_sem]) rfl ⟨_, rfl, HF.out, HE.out⟩
    obtain ⟨r, hr⟩ := Wb.get_ex hlt
    have hur := HU.out.ext HE.out
    obtain ⟨ra, ro, hra, hrc⟩ := hur.tab.opened (by rintro rfl; simp at hr)
    obtain rfl : va = some ⟨ra, ro, none⟩ := hra
    have hmr := List.mem_of_getElem? hr
    obtain ⟨na, nn, nc, ba, bn, bc, hnv, hbv⟩ := hur.one r hmr
    have p0 := hrc j r hr 0 _ rfl
    rw [Nat.add_zero] at p0
    have HSN := Lib.hid (ofP_snoc (p := p) hr)
    have d1 : decide ((j : Int) < (R.length : Int)) = true := by simp; omega
    have hji : (j : Int) < (R.length : Int) := by omega
    by_cases hp : r.p = p
    case neg =>
      have hb : (r.p == p) = false := by simpa using hp
      have e := HSN.out
      rw [if_neg hp, List.append_nil] at e
      have HN : Hid (∃ oa' oc', (Value.slice oa (ofP p (R.take j)).length oc) = .slice oa' (ofP p (R.take (j + 1))).length oc' ∧ (ofP p (R.take (j + 1))).length ≤ j + 1 ∧ wO.ownsRow W0.heap.size 42 8 (.slice oa' (ofP p (R.take (j + 1))).length oc') (ofP p (R.take (j + 1))).length (rowsOf rwc (ofP p (R.take (j + 1))))) := Lib.hid (by
        rw [e]; exact ⟨oa, oc, rfl, by omega, HO.out⟩)
      clear hr hur hrc hmr hnv hbv hp hlt e
      go_wp2
      go_roundw
      case rel =>
        obtain ⟨oa', oc', h1, h2, h3⟩ := HN.out
        exact ⟨j + 1, oa', oc', by omega, by go_num, h1, h2, Lib.hid h3, HX⟩
      case measure => first | (simp [intOf]; done) | (simp [intOf]; omega)
    have hb : (r.p == p) = true := by simpa using hp
    have p1 := hrc j r hr 1 _ rfl
    have p2 := hrc j r hr 2 _ rfl
    have p3 := hrc j r hr 3 (.slice na nn nc) (by rw [← hnv]; rfl)
    have p4 := hrc j r hr 4 (.slice ba bn bc) (by rw [← hbv]; rfl)
    have p5 := hrc j r hr 5 _ rfl
    have p6 := hrc j r hr 6 _ rfl
    have p7 := hrc j r hr 7 _ rfl
    have e := HSN.out
    rw [if_pos hp] at e
    have HEN := Lib.hid e
    have HRW : Hid (rwc r = [.int .u32 r.p, .int .i64 r.now.y, .int .i64 r.now.i, .slice na nn nc, .slice ba bn bc, .int .i64 r.due, .int .i64 r.paid, .int .i64 r.owed]) := Lib.hid (by unfold rwc; rw [hnv, hbv])
    clear hr hur hrc hmr hnv hbv hp hlt e
    obtain ⟨hi, hz0, hz1, hz2⟩ := HIN.out.choose_spec
    go_wp2_with (at_builtin; go_loud (refine wpList_append_row2 rfl (.tmp 22) (.tmp 28) 29 rfl W0.heap.size 42 _ rwZ 8 96 Tryz.underlying29 hi hz0 hz1 hz2 rfl (by decide) _ _ _ rfl (row_ext3 HO.out ((Wb.Ext.refl _).alloc _)) _ rfl 1 [.int .u32 r.p, .int .i64 r.now.y, .int .i64 r.now.i, .slice na nn nc, .slice ba bn bc, .int .i64 r.due, .int .i64 r.paid, .int .i64 r.owed] ?c1 ?c2 ?c3 ?c4 ?c5 ?_))
    case c1 => exact src_lit _ _ (by first | rfl | simp) _ _ _
    case c2 => intro u hu; simp at hu; rcases hu with rfl | rfl | rfl | rfl | rfl | rfl | rfl | rfl <;> rfl
    case c3 => unfold maxLen; omega
    case c4 => omega
    case c5 => have := HX.out.size; first | omega | (simp; omega)
    intro u2 w6 hown2 hg2 hblk
    have hrb : ∀ q9, (Value.slice oa (ofP p (R.take j)).length oc).ownBlock = some q9 → W0.heap.size ≤ q9 := fun q9 hq9 => (HO.out.lt q9 hq9).1
    have HX6 := Lib.hid (show Wb.Ext W0 w6 from Wb.Ext.grown (Wb.Ext.alloc HX.out _) hg2 (fun q9 hq9 => hrb q9 hq9))
    obtain ⟨ua, uc, rfl⟩ := row_shape hown2
    have HN : Hid (∃ oa' oc', (Value.slice ua ((ofP p (R.take j)).length + 1) uc) = .slice oa' (ofP p (R.take (j + 1))).length oc' ∧ (ofP p (R.take (j + 1))).length ≤ j + 1 ∧ w6.ownsRow W0.heap.size 42 8 (.slice oa' (ofP p (R.take (j + 1))).length oc') (ofP p (R.take (j + 1))).length (rowsOf rwc (ofP p (R.take (j + 1))))) := Lib.hid (by
      rw [HEN.out, List.length_append]
      refine ⟨ua, uc, rfl, by simp; omega, ?_⟩
      have e2 : rowsOf rwc (ofP p (R.take j) ++ [r]) = rowsOf rwc (ofP p (R.take j)) ++ rwc r := by unfold rowsOf; simp
      rw [e2, HRW.out]
      exact hown2)
    clear hi hz0 hz1 hz2 hg2 hown2 hblk hrb
    go_wp2
    go_roundw
    case rel =>
      obtain ⟨oa', oc', h1, h2, h3⟩ := HN.out
      exact ⟨j + 1, oa', oc', by omega, by go_num, h1, h2, Lib.hid h3, HX6⟩
    case measure => first | (simp [intOf]; done) | (simp [intOf]; omega)
theorem like31_eq (u v : Value) (R T : List RwM) (w : World) (hu : RowsM w u R) (hv : RowsM w v T) (hc : R.map RwM.c = T.map RwM.c) :
    Calls Tryz.prog 26 #[u, v] w fun e w' => e = .returned (.bool true) ∧ Wb.Ext w w' := by
  obtain ⟨a, ac, rfl⟩ := hu.tab.shape
  obtain ⟨b, bc, rfl⟩ := hv.tab.shape
  have HU := Lib.hid hu; clear hu
  have HV := Lib.hid hv; clear hv
  go_enter Tryz.func26, Tryz.ntmps26
  go_wp2_with fail
  go_fit (same31r_eq 0 0 0 0 _ _ R T _ HU.out HV.out hc); rintro e w1 ⟨rfl, hx1⟩
  go_wp2
  exact bodyPost_ret (v := .bool true) (by simp [results, Tryz.results26, go_sem]) rfl ⟨rfl, hx1⟩
end Go.Proofs.YtnefdpnolojojaaGreat
/- RunApart: the map of the one person's own; what the two runs have in common. -/
namespace Go.Proofs.YtnefdpnolojojaaGreat
open Go.RowKit Go.Sort Go.Lib Go.Maps
set_option maxRecDepth 8000

/-- what is handed in for one person alone -/
structure OwnIs (hs : List HdM) (p : Int) (O : List HdM) : Prop where
  here : SH O p = SH hs p
  off : ∀ q, q ≠ p → SH O q = []
  ok : ∀ x ∈ O, kU32.ok x.p
  len : O.length ≤ 1
theorem own_is_nil {hs : List HdM} {p : Int} (h : findH hs p = none) : OwnIs hs p [] :=
  ⟨by unfold SH; rw [h]; rfl, fun _ _ => rfl, (fun x hx => by cases hx), Nat.zero_le _⟩
theorem own_is_one {hs : List HdM} {p : Int} {x : HdM} (h : findH hs p = some x) (hp : kU32.ok p) : OwnIs hs p [x] := by
  have hxp : x.p = p := (find_in h).2
  refine ⟨?_, fun q hq => ?_, fun y hy => ?_, Nat.le_refl _⟩
  · unfold SH; rw [h]; simp [findH, hxp]
  · have : findH [x] q = none := by simp [findH, hxp, Ne.symm hq]
    unfold SH; rw [this]
  · obtain rfl : y = x := by simpa using hy
    rw [hxp]; exact hp
theorem OwnIs.few {hs O : List HdM} {p : Int} {n : Nat} (h : OwnIs hs p O) (hn : ∀ q, (SH hs q).length ≤ n) (q : Int) : (SH O q).length ≤ n := by
  by_cases e : q = p
  · subst e; rw [h.here]; exact hn q
  · rw [h.off q e]; exact Nat.zero_le _
theorem own_nothing {w0 W : World} {lo M : Nat} (hM : lo ≤ M) (h : KMap kU32 W M 0 (.slice none 0 0) (fun _ => none)) : TabH w0 lo W M [] :=
  ⟨fun w2 h2 => (h.keptF h2 (fun h => by omega)).opt, fun p => ⟨[], fun w2 _ => ⟨⟨.inl ⟨rfl, none, 0, rfl⟩, fun s hs => by cases hs⟩, by simp, fun s hs => by cases hs⟩, rfl⟩, fun p hp => absurd rfl hp⟩
theorem own_one {w0 W2 : World} {lo M2 : Nat} {v : Value} {hs : List HdM} {p : Int} {x : HdM} (hH : HdsM w0 v hs) (hf : findH hs p = some x) (hM : lo ≤ M2) (hx : Wb.Ext w0 W2) (hp : kU32.ok p)
    (h : KMap kU32 W2 M2 1 (.slice none 0 0) (fun q => if p = q then some x.v else none)) : TabH w0 lo W2 M2 [x] := by
  have hxp : x.p = p := (find_in hf).2
  have e : fH [x] = fun q => if p = q then some x.v else none := by
    funext q
    unfold fH findH
    by_cases e : p = q <;> simp [hxp, e]
  have h1 := (hH.each x (find_in hf).1).1
  have e2 : SH [x] p = x.L.map Wb.ct := by unfold SH; simp [findH, hxp]
  refine ⟨fun w2 k => by rw [e]; exact (h.keptF k (fun h => by omega)).opt, fun q => ?_, fun q hq => ?_⟩
  · by_cases e3 : p = q
    · subst e3
      exact ⟨x.L, fun w2 k => by rw [e]; simp only [if_true]; exact h1.ext ((k.mono (fun q _ h9 _ => h9)).old hx (fun i hi => hi)), e2.symm⟩
    · exact ⟨[], fun w2 k => by rw [e]; simp only [if_neg e3]; exact ⟨⟨.inl ⟨rfl, none, 0, rfl⟩, fun s hs => by cases hs⟩, by simp, fun s hs => by cases hs⟩, ((own_is_one hf hp).off q (Ne.symm e3)).symm⟩
  · by_cases e3 : q = p
    · subst e3
      exact ⟨hp, by rw [e]; simp⟩
    · exact absurd ((own_is_one hf hp).off q e3) hq
/-- what the two runs have in common -/
theorem apart_law {F1 F2 : Nat → Prop} {w1 w2 : World} {rv rv2 : Value} {mp mo mp2 mo2 : Option Nat} {B B' C C' : Wb.Bk} {y i k : Int} {S T : Int → List Wb.Ct} {hs ks os is : List Int} {N N2 : Nat} {n1 y1 i1 k1 n2 y2 i2 k2 : Int} {v1 v2 : Value} {rows rows2 : List RwM} {E p0 : Int}
    (h1 : DidF F1 w1 rv mp mo B B' y i k S hs ks N ⟨n1, y1, i1, k1, v1, rows⟩ 0) (h2 : DidF F2 w2 rv2 mp2 mo2 C C' y i k T os is N2 ⟨n2, y2, i2, k2, v2, rows2⟩ E) (hB : Wb.BkOk B) (hA : Wb.Apart p0 B C) (hT : T p0 = S p0) (hT0 : ∀ p, p ≠ p0 → T p = []) :
    E = 0 ∧ Wb.Apart p0 B' C' ∧ rows2.length ≤ 1 ∧ (ofP p0 rows).map RwM.c = (ofP p0 rows2).map RwM.c := by
  obtain ⟨ps, hw, hd⟩ := h1.did
  obtain ⟨ps', hw', hd'⟩ := h2.did
  obtain ⟨C2, Q, e1, e2, e3, e4⟩ := Wb.apart_do hB hA hT hT0 hw hw' hd
  rw [e1] at hd'
  simp only [Prod.mk.injEq] at hd'
  obtain ⟨rfl, rfl, rfl⟩ := hd'
  have key : ∀ R : List RwM, (R.map RwM.c).filter (fun r => decide (r.p = p0)) = (ofP p0 R).map RwM.c := fun R => by
    unfold ofP; rw [List.filter_map]; rfl
  refine ⟨rfl, e2, by simpa [RnM.c] using e3, ?_⟩
  rw [← key, ← key]
  exact e4
/-- a book in box A, as it stands in a law's loop -/
structure ApI (w : World) (P : Nat → Prop) (A j : Nat) (wr : World) (ra : Option Addr) (rl rc : Nat) (mp mo : Option Nat) (B : Wb.Bk) (ks : List Int) (N : Nat) : Prop where
  a0 : wr.cell? ⟨A, 0, none⟩ = some (.slice ra rl rc)
  a1 : wr.cell? ⟨A, 1, none⟩ = some (.map mp)
  a2 : wr.cell? ⟨A, 2, none⟩ = some (.map mo)
  af : ∀ j, wr.frozen? ⟨A, j, none⟩ = false
  book : BkF (fun q => ¬ P q) wr (.slice ra rl rc) mp mo B ks N
  ok : BkI j B ks N
  lt : A < wr.heap.size ∧ w.heap.size ≤ A
  ext : Wb.Ext w wr
theorem ApI.ext' {w : World} {P : Nat → Prop} {A j : Nat} {wr w2 : World} {ra : Option Addr} {rl rc : Nat} {mp mo : Option Nat} {B : Wb.Bk} {ks : List Int} {N : Nat} (h : ApI w P A j wr ra rl rc mp mo B ks N) (k : Wb.Ext wr w2) : ApI w P A j w2 ra rl rc mp mo B ks N :=
  ⟨k.keep h.a0, k.keep h.a1, k.keep h.a2, (fun i => (k.cells.2 _ _ h.lt.1).trans (h.af i)), h.book.kept (.ext k), h.ok, ⟨Nat.lt_of_lt_of_le h.lt.1 k.size, h.lt.2⟩, h.ext.trans k⟩
theorem did_law3 {P : Nat → Prop} {w0 WR W' W : World} {lo M j : Nat} {rv : Value} {mp mo : Option Nat} {B : Wb.Bk} {ks hs : List Int} {N : Nat} {HS : List HdM} {y i k : Int}
    (hb : BkF (fun q => ¬ P q) WR rv mp mo B ks N) (hi : BkI j B ks N) (hj : j ≤ 40) (hT : TabH w0 lo W' M HS) (h0R : w0.heap.size ≤ WR.heap.size) (hP : ∀ q, P q → w0.heap.size ≤ q ∧ q < WR.heap.size) (hlo : WR.heap.size ≤ lo)
    (hRW : Wb.Ext WR W) (hTW : Wb.Ext W' W) (hk : KeysAre kU32 (fH HS) hs) (hr : hs.Pairwise (· ≤ ·)) (hl : HS.length ≤ 20) (hhl : hs.length ≤ HS.length) (hS : ∀ p, (SH HS p).length ≤ 60) :
    Calls Tryz.prog 12 #[BkV rv mp mo, .int .i64 y, .int .i64 i, .int .i64 k, .map (some M)] W fun e w' => ∃ (ra : Option Addr) (rl rc : Nat) (mp' mo' : Option Nat) (B' : Wb.Bk) (n1 y1 i1 k1 : Int) (qa : Option Addr) (qc : Nat) (rows : List RwM) (E : Int) (nW : Nat), e = .returned (.tuple #[BkV (.slice ra rl rc) mp' mo', RnV n1 y1 i1 k1 (.slice qa rows.length qc), .int .i64 E]) ∧
      nW = W.heap.size ∧ WR.heap.size ≤ nW ∧ Hid (DidF (fun q => q < nW → Ok0 P WR.heap.size lo W'.heap.size q) w' (.slice ra rl rc) mp' mo' B B' y i k (SH HS) hs ks N ⟨n1, y1, i1, k1, .slice qa rows.length qc, rows⟩ E) ∧ Hid (BkI (j + 1) B' (ks ++ hs) (N + ks.length + hs.length)) ∧ Wb.Ext W w' := by
  refine (did_law hb hi hj hT h0R hP hlo hRW hTW hk hr hl hhl hS).mono ?_
  rintro e w' ⟨ra', rl', rc', mp', mo', B', n1, y1, i1, k1, qa, qc, rows, E, rfl, h5, h6, h7⟩
  exact ⟨ra', rl', rc', mp', mo', B', n1, y1, i1, k1, qa, qc, rows, E, W.heap.size, rfl, rfl, hRW.size, Lib.hid h5, Lib.hid h6, h7⟩
theorem Kept.drewR {F : Nat → Prop} {w w' : World} (h : Kept F w w') : Kept F w w'.drew := h.trans (.ext (.drew (.refl _)))
end Go.Proofs.YtnefdpnolojojaaGreat
