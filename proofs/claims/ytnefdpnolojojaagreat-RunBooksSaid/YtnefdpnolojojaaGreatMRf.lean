/- MRf -/
import Derived.Test.YtnefdpnolojojaaGreatMRd
import Derived.Deep.RegionHeldLaw
import Derived.Deep.RegionHeld3
namespace Go.Proofs.YtnefdpnolojojaaGreat
open Go.RowKit
set_option maxRecDepth 8000
attribute [local go_sem ↓] Go.wp_at_zero Go.wp_at_succ
theorem same31_eq (y i : Int) (u v : Value) (l : List Wb.Ln) (w : World) (hu : Lns w u l) (hv : Lns w v l) (hs : Sized l) :
  Calls Tryz.prog 53 #[.agg #[.int .i64 y, .int .i64 i, u], .agg #[.int .i64 y, .int .i64 i, v]] w fun e w' => e = .returned (.bool true) ∧ Wb.Ext w w' := by
 obtain ⟨a, cap, rfl⟩ := hu.shape
 obtain ⟨b, cap2, rfl⟩ := hv.shape
 have HU := Lib.hid hu; clear hu
 have HV := Lib.hid hv; clear hv
 have hlen := hs.1
 clear hs
 go_enter Tryz.func53, Tryz.ntmps53
 go_wp2
 have hb0 : ((w.alloc (.cells #[.int .i64 y, .int .i64 i, .slice a l.length cap] 38)).alloc (.cells #[.int .i64 y, .int .i64 i, .slice b l.length cap2] 38)).cell? ⟨w.heap.size, 2, none⟩ = some (.slice a l.length cap) := by simp [go_sem]
 have hb1 : ((w.alloc (.cells #[.int .i64 y, .int .i64 i, .slice a l.length cap] 38)).alloc (.cells #[.int .i64 y, .int .i64 i, .slice b l.length cap2] 38)).cell? ⟨w.heap.size + 1, 2, none⟩ = some (.slice b l.length cap2) := by simp [go_sem]
 go_loopw [5] (fun iv wr => ∃ k : Nat, k ≤ l.length ∧ iv = .int .i64 k ∧ Wb.Ext ((w.alloc (.cells #[.int .i64 y, .int .i64 i, .slice a l.length cap] 38)).alloc (.cells #[.int .i64 y, .int .i64 i, .slice b l.length cap2] 38)) wr) (fun iv _ => l.length - (intOf iv).toNat)
 case atStart => exact ⟨0, by omega, rfl, by (repeat' (first | (with_reducible assumption) | (with_reducible exact Wb.Ext.refl _) | (with_reducible refine Wb.Ext.drew ?_) | (with_reducible refine Wb.Ext.drewN ?_ _) | (with_reducible refine Wb.Ext.alloc ?_ _) | (with_reducible refine Wb.Ext.trans ?_ (by assumption))))⟩
 case round =>
  obtain ⟨k, hk, rfl, hext⟩ := hrel
  have hc0 := hext.keep hb0
  have hc1 := hext.keep hb1
  have hz1 := Wb.cell_size hc1
  have hz0 : w.heap.size < wr.heap.size := by omega
  have hew : Wb.Ext w wr := by (repeat' (first | (with_reducible assumption) | (with_reducible exact Wb.Ext.refl _) | (with_reducible refine Wb.Ext.drew ?_) | (with_reducible refine Wb.Ext.drewN ?_ _) | (with_reducible refine Wb.Ext.alloc ?_ _) | (with_reducible refine Wb.Ext.trans ?_ (by assumption))))
  by_cases hlt : k < l.length
  ·obtain ⟨x, hx⟩ := Wb.get_ex hlt
   have hlti : (k : Int) < l.length := by omega
   obtain ⟨ba, oa, rfl, hca⟩ := (HU.out.ext hew).opened (ne_of_lt hlt)
   obtain ⟨bb, ob, rfl, hcb⟩ := (HV.out.ext hew).opened (ne_of_lt hlt)
   obtain ⟨hp1, hp2, hp3⟩ := hca k x hx
   obtain ⟨hq1, hq2, hq3⟩ := hcb k x hx
   clear hca hcb hx
   obtain ⟨xp, xc, xn⟩ := x
   simp only at hp1 hp2 hp3 hq1 hq2 hq3
   go_wp2_with fail
   go_region_held3 (fun w' => w'.cell? ⟨w.heap.size, 2, none⟩ = some (.slice (some ⟨ba, oa, none⟩) l.length cap) ∧ w'.cell? ⟨w.heap.size + 1, 2, none⟩ = some (.slice (some ⟨bb, ob, none⟩) l.length cap2) ∧ w'.cell? ⟨ba, oa + k * 3, none⟩ = some (.int .i64 xp) ∧ w'.cell? ⟨ba, oa + k * 3 + 1, none⟩ = some (.string (Wb.S xc)) ∧ w'.cell? ⟨ba, oa + k * 3 + 2, none⟩ = some (.int .i64 xn) ∧ w'.cell? ⟨bb, ob + k * 3, none⟩ = some (.int .i64 xp) ∧ w'.cell? ⟨bb, ob + k * 3 + 1, none⟩ = some (.string (Wb.S xc)) ∧ w'.cell? ⟨bb, ob + k * 3 + 2, none⟩ = some (.int .i64 xn)) (first | exact ⟨hc0, hc1, hp1, hp2, hp3, hq1, hq2, hq3⟩ | assumption | go_keep) (fail)
   go_wp2
   go_roundw
   case rel => exact ⟨k + 1, by omega, by go_num, by (repeat' (first | (with_reducible assumption) | (with_reducible exact Wb.Ext.refl _) | (with_reducible refine Wb.Ext.drew ?_) | (with_reducible refine Wb.Ext.drewN ?_ _) | (with_reducible refine Wb.Ext.alloc ?_ _) | (with_reducible refine Wb.Ext.trans ?_ (by assumption))))⟩
   case measure => simp [intOf]; omega
  ·go_wp2
   go_ret
   exact ⟨rfl, by (repeat' (first | (with_reducible assumption) | (with_reducible exact Wb.Ext.refl _) | (with_reducible refine Wb.Ext.drew ?_) | (with_reducible refine Wb.Ext.drewN ?_ _) | (with_reducible refine Wb.Ext.alloc ?_ _) | (with_reducible refine Wb.Ext.trans ?_ (by assumption))))⟩
theorem ct_at31 {R S : List Wb.Sl} (h : R.map Wb.ct = S.map Wb.ct) {k : Nat} {s : Wb.Sl} (hs : R[k]? = some s) : ∃ v, S[k]? = some ⟨s.y, s.i, v, s.l⟩ := by
 have h1 : (R.map Wb.ct)[k]? = some (Wb.ct s) := by rw [List.getElem?_map, hs]; rfl
 rw [h, List.getElem?_map] at h1
 rcases hS : S[k]? with _ | t
 ·rw [hS] at h1; cases h1
 ·rw [hS] at h1
  simp only [Option.map_some, Option.some.injEq, Wb.ct, Prod.mk.injEq] at h1
  obtain ⟨ty, ti, tv, tl⟩ := t
  simp only at h1
  obtain ⟨rfl, rfl, rfl⟩ := h1
  exact ⟨tv, rfl⟩
theorem all31_eq (u v : Value) (L K : List Wb.Sl) (w : World) (hu : Sls w u L) (hv : Sls w v K) (hc : L.map Wb.ct = K.map Wb.ct) (hl : L.length ≤ 100000) :
  Calls Tryz.prog 24 #[u, v] w fun e w' => e = .returned (.bool true) ∧ Wb.Ext w w' := by
 obtain ⟨a, ac, rfl⟩ := hu.1.shape
 obtain ⟨b, bc, rfl⟩ := hv.1.shape
 have hlen : K.length = L.length := by have := congrArg List.length hc; simpa using this.symm
 have HU := Lib.hid hu; clear hu
 rw [hlen] at hv ⊢
 have HV := Lib.hid hv; clear hv
 have HC := Lib.hid hc; clear hc
 have HLEN := Lib.hid hlen; clear hlen
 have hne : ((L.length : Int) != (L.length : Int)) = false := by simp
 go_enter Tryz.func24, Tryz.ntmps24
 go_wp2_with fail
 go_loopw [5] (fun iv wr => ∃ k : Nat, k ≤ L.length ∧ iv = .int .i64 k ∧ Hid (Wb.Ext w wr)) (fun iv _ => L.length - (intOf iv).toNat)
 case atStart => exact ⟨0, Nat.zero_le _, rfl, Lib.hid (.refl _)⟩
 case round =>
  obtain ⟨k, hk, rfl, HX⟩ := hrel
  obtain ⟨wO, hwz⟩ : ∃ z, z = wr := ⟨_, rfl⟩
  subst hwz
  by_cases hlt : k < L.length
  case neg =>
   obtain rfl : k = L.length := by omega
   have d1 : decide ((L.length : Int) < (L.length : Int)) = false := by simp
   go_wp2
   exact bodyPost_ret (v := .bool true) (by simp [results, Tryz.results24, go_sem]) rfl ⟨rfl, HX.out⟩
  obtain ⟨s, hs⟩ := Wb.get_ex hlt
  obtain ⟨tv, ht⟩ := ct_at31 HC.out hs
  obtain ⟨ba, oa, rfl, x0, x1, x2⟩ := (HU.out.ext HX.out).cells hs
  have hvc := (HV.out.ext HX.out)
  rw [← HLEN.out] at hvc
  obtain ⟨bb, ob, rfl, y0, y1, y2⟩ := hvc.cells ht
  have HS1 := Lib.hid ((HU.out.ext HX.out).2 s (List.mem_of_getElem? hs))
  have HS2 := Lib.hid (hvc.2 _ (List.mem_of_getElem? ht)).1
  obtain ⟨sa, sc, hsv⟩ := HS1.out.1.1.shape
  obtain ⟨ta, tc, htv⟩ := HS2.out.1.shape
  simp only at htv y0 y1 y2
  subst htv
  rw [hsv] at x2
  have HS3 := Lib.hid (show Lns wO (.slice sa s.l.length sc) s.l by rw [← hsv]; exact HS1.out.1.1)
  have d1 : decide ((k : Int) < (L.length : Int)) = true := by simp; omega
  have hki : (k : Int) < (L.length : Int) := by omega
  have l0 : ∀ x, Wb.Ext wO x → x.cell? ⟨ba, oa + k * 3, none⟩ = some (.int .i64 s.y) := fun x h => h.keep x0
  have l1 : ∀ x, Wb.Ext wO x → x.cell? ⟨ba, oa + k * 3 + 1, none⟩ = some (.int .i64 s.i) := fun x h => h.keep x1
  have l2 : ∀ x, Wb.Ext wO x → x.cell? ⟨ba, oa + k * 3 + 2, none⟩ = some (.slice sa s.l.length sc) := fun x h => h.keep x2
  have m0 : ∀ x, Wb.Ext wO x → x.cell? ⟨bb, ob + k * 3, none⟩ = some (.int .i64 s.y) := fun x h => h.keep y0
  have m1 : ∀ x, Wb.Ext wO x → x.cell? ⟨bb, ob + k * 3 + 1, none⟩ = some (.int .i64 s.i) := fun x h => h.keep y1
  have m2 : ∀ x, Wb.Ext wO x → x.cell? ⟨bb, ob + k * 3 + 2, none⟩ = some (.slice ta s.l.length tc) := fun x h => h.keep y2
  clear hs ht hvc hsv hlt x0 x1 x2 y0 y1 y2
  go_wp2_with fail
  go_region_held_law (fun x => Wb.Ext wO x) ((repeat' (first | (with_reducible assumption) | (with_reducible exact Wb.Ext.refl _) | (with_reducible refine Wb.Ext.drew ?_) | (with_reducible refine Wb.Ext.drewN ?_ _) | (with_reducible refine Wb.Ext.alloc ?_ _) | (with_reducible refine Wb.Ext.trans ?_ (by assumption))))) ((go_at_call 53; refine (same31_eq s.y s.i _ _ s.l _ (HS3.out.ext (by (repeat' (first | (with_reducible assumption) | (with_reducible exact Wb.Ext.refl _) | (with_reducible refine Wb.Ext.drew ?_) | (with_reducible refine Wb.Ext.drewN ?_ _) | (with_reducible refine Wb.Ext.alloc ?_ _) | (with_reducible refine Wb.Ext.trans ?_ (by assumption)))))) (HS2.out.1.ext (by (repeat' (first | (with_reducible assumption) | (with_reducible exact Wb.Ext.refl _) | (with_reducible refine Wb.Ext.drew ?_) | (with_reducible refine Wb.Ext.drewN ?_ _) | (with_reducible refine Wb.Ext.alloc ?_ _) | (with_reducible refine Wb.Ext.trans ?_ (by assumption)))))) HS1.out.2).mono ?_; rintro e w7 ⟨rfl, hx7⟩))
  all_goals
   go_wp2
   go_roundw
   case rel => exact ⟨k + 1, by omega, by go_num, Lib.hid (HX.out.trans (by (repeat' (first | (with_reducible assumption) | (with_reducible exact Wb.Ext.refl _) | (with_reducible refine Wb.Ext.drew ?_) | (with_reducible refine Wb.Ext.drewN ?_ _) | (with_reducible refine Wb.Ext.alloc ?_ _) | (with_reducible refine Wb.Ext.trans ?_ (by assumption))))))⟩
   case measure => first | (simp [intOf]; done) | (simp [intOf]; omega)
end Go.Proofs.YtnefdpnolojojaaGreat
namespace Go.Proofs.YtnefdpnolojojaaGreat
open Go.RowKit Go.Sort Go.Lib Go.Maps
set_option maxRecDepth 8000
attribute [local go_sem ↓] Go.wp_at_zero Go.wp_at_succ
end Go.Proofs.YtnefdpnolojojaaGreat
namespace Go.Proofs.YtnefdpnolojojaaGreat
open Go.RowKit Go.Sort Go.Lib Go.Maps
set_option maxRecDepth 8000
attribute [local go_sem ↓] Go.wp_at_zero Go.wp_at_succ
theorem rw_at {R T : List RwM} (h : R.map RwM.c = T.map RwM.c) {k : Nat} {r : RwM} (hr : R[k]? = some r) : ∃ t, T[k]? = some t ∧ r.c = t.c := by
 have h1 : (R.map RwM.c)[k]? = some r.c := by rw [List.getElem?_map, hr]; rfl
 rw [h, List.getElem?_map] at h1
 rcases hT : T[k]? with _ | t
 ·rw [hT] at h1; cases h1
 ·rw [hT] at h1
  exact ⟨t, rfl, (Option.some.inj h1).symm⟩
def RowB (w : World) (b : Nat) (p y i : Int) (nv bv : Value) (due paid owed : Int) : Prop := w.cell? ⟨b, 0, none⟩ = some (.int .u32 p) ∧ w.cell? ⟨b, 1, none⟩ = some (.int .i64 y) ∧ w.cell? ⟨b, 2, none⟩ = some (.int .i64 i) ∧ w.cell? ⟨b, 3, none⟩ = some nv ∧ w.cell? ⟨b, 4, none⟩ = some bv ∧ w.cell? ⟨b, 5, none⟩ = some (.int .i64 due) ∧ w.cell? ⟨b, 6, none⟩ = some (.int .i64 paid) ∧ w.cell? ⟨b, 7, none⟩ = some (.int .i64 owed)
set_option maxHeartbeats 16000000 in
theorem same31r_eq (n y i k : Int) (u v : Value) (R T : List RwM) (w : World) (hu : RowsM w u R) (hv : RowsM w v T) (hc : R.map RwM.c = T.map RwM.c) :
  Calls Tryz.prog 22 #[RnV n y i k u, RnV n y i k v] w fun e w' => e = .returned (.bool true) ∧ Wb.Ext w w' := by
 obtain ⟨a, ac, rfl⟩ := hu.tab.shape
 obtain ⟨b, bc, rfl⟩ := hv.tab.shape
 have hlen : T.length = R.length := by have := congrArg List.length hc; simpa using this.symm
 have hrl := hu.many
 have HU := Lib.hid hu; clear hu
 rw [hlen] at hv ⊢
 have HV := Lib.hid hv; clear hv
 have HC := Lib.hid hc; clear hc
 have HLEN := Lib.hid hlen; clear hlen
 have q1 : ((n : Int) != n) = false := by simp
 have q2 : ((y : Int) != y) = false := by simp
 have q3 : ((i : Int) != i) = false := by simp
 have q4 : ((k : Int) != k) = false := by simp
 have q5 : ((R.length : Int) != (R.length : Int)) = false := by simp
 unfold RnV
 go_enter Tryz.func22, Tryz.ntmps22
 go_upto_region 3 with (fail)
 refine Wb.wp_at fun W0 hW0 => ?_
 obtain ⟨X, hX⟩ : ∃ X, w.heap.size = X := ⟨_, rfl⟩
 have x4 : W0.cell? ⟨X, 4, none⟩ = some (.slice a R.length ac) := by rw [hW0, ← hX]; simp [go_sem]
 have z4 : W0.cell? ⟨X + 1, 4, none⟩ = some (.slice b R.length bc) := by rw [hW0, ← hX]; simp [go_sem]
 have HX0 := Lib.hid (show Wb.Ext w W0 by rw [hW0]; (repeat' (first | (with_reducible assumption) | (with_reducible exact Wb.Ext.refl _) | (with_reducible refine Wb.Ext.drew ?_) | (with_reducible refine Wb.Ext.drewN ?_ _) | (with_reducible refine Wb.Ext.alloc ?_ _) | (with_reducible refine Wb.Ext.trans ?_ (by assumption)))))
 rw [hX]
 clear hW0 hX q1 q2 q3 q4 q5
 go_wp2_with fail
 go_loopw [5] (fun iv wr => ∃ j : Nat, j ≤ R.length ∧ iv = .int .i64 j ∧ Hid (Wb.Ext W0 wr)) (fun iv _ => R.length - (intOf iv).toNat)
 case atStart => exact ⟨0, Nat.zero_le _, rfl, Lib.hid (.refl _)⟩
 case round =>
  obtain ⟨j, hj, rfl, HX⟩ := hrel
  obtain ⟨wO, hwz⟩ : ∃ z, z = wr := ⟨_, rfl⟩
  subst hwz
  have x4 := HX.out.keep x4
  have z4 := HX.out.keep z4
  by_cases hlt : j < R.length
  case neg =>
   obtain rfl : j = R.length := by omega
   have d1 : decide ((R.length : Int) < (R.length : Int)) = false := by simp
   have HXF := Lib.hid (HX0.out.trans HX.out)
   go_wp2
   exact bodyPost_ret (v := .bool true) (by simp [results, Tryz.results22, go_sem]) rfl ⟨rfl, HXF.out⟩
  obtain ⟨r, hr⟩ := Wb.get_ex hlt
  obtain ⟨t, ht, hrt⟩ := rw_at HC.out hr
  have HE := Lib.hid (HX0.out.trans HX.out)
  have hur := HU.out.ext HE.out
  have hvr := HV.out.ext HE.out
  obtain ⟨ra, ro, hra, hrc⟩ := hur.tab.opened (by rintro rfl; simp at hr)
  obtain rfl : a = some ⟨ra, ro, none⟩ := hra
  have hvt := hvr.tab
  rw [← HLEN.out] at hvt
  obtain ⟨ta, tO, hta, htc⟩ := hvt.opened (by rintro rfl; simp at ht)
  obtain rfl : b = some ⟨ta, tO, none⟩ := hta
  have hmr := List.mem_of_getElem? hr
  have hmt := List.mem_of_getElem? ht
  obtain ⟨na, nc, hnv⟩ := (hur.each r hmr).now.1.shape
  obtain ⟨ba, bc9, hbv⟩ := (hur.each r hmr).back.1.shape
  obtain ⟨na', nc', hnv'⟩ := (hvr.each t hmt).now.1.shape
  obtain ⟨ba', bc', hbv'⟩ := (hvr.each t hmt).back.1.shape
  have e1 : t.p = r.p := (congrArg Wb.Rw.p hrt).symm
  have e2 : Wb.ct t.now = Wb.ct r.now := (congrArg Wb.Rw.now hrt).symm
  have e2y : t.now.y = r.now.y := congrArg (fun c : Wb.Ct => c.1) e2
  have e2i : t.now.i = r.now.i := congrArg (fun c : Wb.Ct => c.2.1) e2
  have e2l : t.now.l = r.now.l := congrArg (fun c : Wb.Ct => c.2.2) e2
  have e3 : r.back.map Wb.ct = t.back.map Wb.ct := congrArg Wb.Rw.back hrt
  have e3l : t.back.length = r.back.length := by have := congrArg List.length e3; simpa using this.symm
  have e4 : t.due = r.due := (congrArg Wb.Rw.due hrt).symm
  have e5 : t.paid = r.paid := (congrArg Wb.Rw.paid hrt).symm
  have e6 : t.owed = r.owed := (congrArg Wb.Rw.owed hrt).symm
  rw [e2l] at hnv'
  rw [e3l] at hbv'
  have p0 := hrc j r hr 0 _ rfl
  have p1 := hrc j r hr 1 _ rfl
  have p2 := hrc j r hr 2 _ rfl
  have p3 := hrc j r hr 3 (.slice na r.now.l.length nc) (by rw [← hnv]; rfl)
  have p4 := hrc j r hr 4 (.slice ba r.back.length bc9) (by rw [← hbv]; rfl)
  have p5 := hrc j r hr 5 _ rfl
  have p6 := hrc j r hr 6 _ rfl
  have p7 := hrc j r hr 7 _ rfl
  rw [Nat.add_zero] at p0
  have s0 := htc j t ht 0 (.int .u32 r.p) (by rw [← e1]; rfl)
  have s1 := htc j t ht 1 (.int .i64 r.now.y) (by rw [← e2y]; rfl)
  have s2 := htc j t ht 2 (.int .i64 r.now.i) (by rw [← e2i]; rfl)
  have s3 := htc j t ht 3 (.slice na' r.now.l.length nc') (by rw [← hnv']; rfl)
  have s4 := htc j t ht 4 (.slice ba' r.back.length bc') (by rw [← hbv']; rfl)
  have s5 := htc j t ht 5 (.int .i64 r.due) (by rw [← e4]; rfl)
  have s6 := htc j t ht 6 (.int .i64 r.paid) (by rw [← e5]; rfl)
  have s7 := htc j t ht 7 (.int .i64 r.owed) (by rw [← e6]; rfl)
  rw [Nat.add_zero] at s0
  have HN1 := Lib.hid (show Lns wO (.slice na r.now.l.length nc) r.now.l by rw [← hnv]; exact (hur.each r hmr).now.1)
  have HN2 := Lib.hid (show Lns wO (.slice na' r.now.l.length nc') r.now.l by rw [← hnv', ← e2l]; exact (hvr.each t hmt).now.1)
  have HNZ := Lib.hid (hur.each r hmr).sized
  have HB1 := Lib.hid (show Sls wO (.slice ba r.back.length bc9) r.back by rw [← hbv]; exact (hur.each r hmr).back)
  have HB2 := Lib.hid (show Sls wO (.slice ba' r.back.length bc') t.back by rw [← hbv']; exact (hvr.each t hmt).back)
  have HBC := Lib.hid e3
  have hbl := (hur.each r hmr).many
  have l0 : ∀ x, Wb.Ext wO x → x.cell? ⟨ra, ro + j * 8, none⟩ = some (.int .u32 r.p) := fun x h => h.keep p0
  have l1 : ∀ x, Wb.Ext wO x → x.cell? ⟨ra, ro + j * 8 + 1, none⟩ = some (.int .i64 r.now.y) := fun x h => h.keep p1
  have l2 : ∀ x, Wb.Ext wO x → x.cell? ⟨ra, ro + j * 8 + 2, none⟩ = some (.int .i64 r.now.i) := fun x h => h.keep p2
  have l3 : ∀ x, Wb.Ext wO x → x.cell? ⟨ra, ro + j * 8 + 3, none⟩ = some (.slice na r.now.l.length nc) := fun x h => h.keep p3
  have l4 : ∀ x, Wb.Ext wO x → x.cell? ⟨ra, ro + j * 8 + 4, none⟩ = some (.slice ba r.back.length bc9) := fun x h => h.keep p4
  have l5 : ∀ x, Wb.Ext wO x → x.cell? ⟨ra, ro + j * 8 + 5, none⟩ = some (.int .i64 r.due) := fun x h => h.keep p5
  have l6 : ∀ x, Wb.Ext wO x → x.cell? ⟨ra, ro + j * 8 + 6, none⟩ = some (.int .i64 r.paid) := fun x h => h.keep p6
  have l7 : ∀ x, Wb.Ext wO x → x.cell? ⟨ra, ro + j * 8 + 7, none⟩ = some (.int .i64 r.owed) := fun x h => h.keep p7
  have m0 : ∀ x, Wb.Ext wO x → x.cell? ⟨ta, tO + j * 8, none⟩ = some (.int .u32 r.p) := fun x h => h.keep s0
  have m1 : ∀ x, Wb.Ext wO x → x.cell? ⟨ta, tO + j * 8 + 1, none⟩ = some (.int .i64 r.now.y) := fun x h => h.keep s1
  have m2 : ∀ x, Wb.Ext wO x → x.cell? ⟨ta, tO + j * 8 + 2, none⟩ = some (.int .i64 r.now.i) := fun x h => h.keep s2
  have m3 : ∀ x, Wb.Ext wO x → x.cell? ⟨ta, tO + j * 8 + 3, none⟩ = some (.slice na' r.now.l.length nc') := fun x h => h.keep s3
  have m4 : ∀ x, Wb.Ext wO x → x.cell? ⟨ta, tO + j * 8 + 4, none⟩ = some (.slice ba' r.back.length bc') := fun x h => h.keep s4
  have m5 : ∀ x, Wb.Ext wO x → x.cell? ⟨ta, tO + j * 8 + 5, none⟩ = some (.int .i64 r.due) := fun x h => h.keep s5
  have m6 : ∀ x, Wb.Ext wO x → x.cell? ⟨ta, tO + j * 8 + 6, none⟩ = some (.int .i64 r.paid) := fun x h => h.keep s6
  have m7 : ∀ x, Wb.Ext wO x → x.cell? ⟨ta, tO + j * 8 + 7, none⟩ = some (.int .i64 r.owed) := fun x h => h.keep s7
  have xk : ∀ x, Wb.Ext wO x → x.cell? ⟨X, 4, none⟩ = some (.slice (some ⟨ra, ro, none⟩) R.length ac) := fun x h => h.keep x4
  have zk : ∀ x, Wb.Ext wO x → x.cell? ⟨X + 1, 4, none⟩ = some (.slice (some ⟨ta, tO, none⟩) R.length bc) := fun x h => h.keep z4
  have d1 : decide ((j : Int) < (R.length : Int)) = true := by simp; omega
  have hji : (j : Int) < (R.length : Int) := by omega
  obtain ⟨P, hP⟩ : ∃ P, r.p = P := ⟨_, rfl⟩
  clear hr ht hrt hur hvr hrc hvt htc hmr hmt hnv hbv hnv' hbv' e1 e2 e2y e2i e2l e3 e3l e4 e5 e6 p0 p1 p2 p3 p4 p5 p6 p7 s0 s1 s2 s3 s4 s5 s6 s7 hlt
  go_upto_region 6 with (fail)
  go_cut [6, 7] (fun c e wx => ∃ B1 B2 : Nat, c = .pointer (some ⟨B1, 0, none⟩) ∧ e = .pointer (some ⟨B2, 0, none⟩) ∧ RowB wx B1 r.p r.now.y r.now.i (.slice na r.now.l.length nc) (.slice ba r.back.length bc9) r.due r.paid r.owed ∧ RowB wx B2 r.p r.now.y r.now.i (.slice na' r.now.l.length nc') (.slice ba' r.back.length bc') r.due r.paid r.owed ∧ Wb.Ext wO wx)
  case first =>
   go_wp2_with fail
   go_region_held_law (fun x => Wb.Ext wO x) ((repeat' (first | (with_reducible assumption) | (with_reducible exact Wb.Ext.refl _) | (with_reducible refine Wb.Ext.drew ?_) | (with_reducible refine Wb.Ext.drewN ?_ _) | (with_reducible refine Wb.Ext.alloc ?_ _) | (with_reducible refine Wb.ext_set ?_ (by first | assumption | (simp; done) | (simp; omega) | omega) _) | (with_reducible refine Wb.Ext.trans ?_ (by assumption))))) (fail)
   all_goals go_wp2_with fail
   all_goals go_meet
   all_goals exact ⟨_, _, rfl, rfl, by unfold RowB; go_simp, by unfold RowB; go_simp, by (repeat' (first | (with_reducible assumption) | (with_reducible exact Wb.Ext.refl _) | (with_reducible refine Wb.Ext.drew ?_) | (with_reducible refine Wb.Ext.drewN ?_ _) | (with_reducible refine Wb.Ext.alloc ?_ _) | (with_reducible refine Wb.ext_set ?_ (by first | assumption | (simp; done) | (simp; omega) | omega) _) | (with_reducible refine Wb.Ext.trans ?_ (by assumption))))⟩
  case rest =>
   obtain ⟨B1, B2, rfl, rfl, ⟨f0, f1, f2, f3, f4, f5, f6, f7⟩, ⟨g0, g1, g2, g3, g4, g5, g6, g7⟩, hxO⟩ := hcut
   obtain ⟨wB, hwz⟩ : ∃ z, z = wc := ⟨_, rfl⟩
   subst hwz
   have HXB := Lib.hid hxO
   have q1 : ((r.p : Int) != r.p) = false := by simp
   have q2 : ((r.due : Int) != r.due) = false := by simp
   have q3 : ((r.paid : Int) != r.paid) = false := by simp
   have q4 : ((r.owed : Int) != r.owed) = false := by simp
   clear l0 l1 l2 l3 l4 l5 l6 l7 m0 m1 m2 m3 m4 m5 m6 m7 xk zk hxO hP
   go_wp2_with fail
   go_fit (same31_eq r.now.y r.now.i _ _ r.now.l _ (HN1.out.ext HXB.out) (HN2.out.ext HXB.out) HNZ.out); rintro e wC ⟨rfl, hxC⟩
   have f4 := hxC.keep f4
   have f5 := hxC.keep f5
   have f6 := hxC.keep f6
   have f7 := hxC.keep f7
   have g4 := hxC.keep g4
   have g5 := hxC.keep g5
   have g6 := hxC.keep g6
   have g7 := hxC.keep g7
   have HXC := Lib.hid hxC
   clear hxC f0 f1 f2 f3 g0 g1 g2 g3
   go_wp2_with fail
   go_fit (all31_eq _ _ r.back t.back _ (HB1.out.ext (HXB.out.trans HXC.out)) (HB2.out.ext (HXB.out.trans HXC.out)) HBC.out hbl); rintro e wE ⟨rfl, hxE⟩
   have f5 := hxE.keep f5
   have f6 := hxE.keep f6
   have f7 := hxE.keep f7
   have g5 := hxE.keep g5
   have g6 := hxE.keep g6
   have g7 := hxE.keep g7
   have HXE := Lib.hid (HX.out.trans (HXB.out.trans (HXC.out.trans hxE)))
   clear hxE f4 g4
   go_wp2
   go_roundw
   case rel => exact ⟨j + 1, by omega, by go_num, HXE⟩
   case measure => first | (simp [intOf]; done) | (simp [intOf]; omega)
end Go.Proofs.YtnefdpnolojojaaGreat
namespace Go.Proofs.YtnefdpnolojojaaGreat
open Go.RowKit Go.Sort Go.Lib Go.Maps
set_option maxRecDepth 8000
attribute [local go_sem ↓] Go.wp_at_zero Go.wp_at_succ
end Go.Proofs.YtnefdpnolojojaaGreat
namespace Go.Proofs.YtnefdpnolojojaaGreat
open Go.RowKit Go.Sort Go.Lib Go.Maps
set_option maxRecDepth 8000
structure OwnIs (hs : List HdM) (p : Int) (O : List HdM) : Prop where
 here : SH O p = SH hs p
 off : ∀ q, q ≠ p → SH O q = []
 ok : ∀ x ∈ O, kU32.ok x.p
 len : O.length ≤ 1
theorem OwnIs.few {hs O : List HdM} {p : Int} {n : Nat} (h : OwnIs hs p O) (hn : ∀ q, (SH hs q).length ≤ n) (q : Int) : (SH O q).length ≤ n := by
 by_cases e : q = p
 ·subst e; rw [h.here]; exact hn q
 ·rw [h.off q e]; exact Nat.zero_le _
structure ApI (w : World) (P : Nat → Prop) (A j : Nat) (wr : World) (ra : Option Addr) (rl rc : Nat) (mp mo : Option Nat) (B : Wb.Bk) (ks : List Int) (N : Nat) : Prop where
 a0 : wr.cell? ⟨A, 0, none⟩ = some (.slice ra rl rc)
 a1 : wr.cell? ⟨A, 1, none⟩ = some (.map mp)
 a2 : wr.cell? ⟨A, 2, none⟩ = some (.map mo)
 af : ∀ j, wr.frozen? ⟨A, j, none⟩ = false
 book : BkF (fun q => ¬ P q) wr (.slice ra rl rc) mp mo B ks N
 ok : BkI j B ks N
 lt : A < wr.heap.size ∧ w.heap.size ≤ A
 ext : Wb.Ext w wr
theorem Kept.drewR {F : Nat → Prop} {w w' : World} (h : Kept F w w') : Kept F w w'.drew := h.trans (.ext (.drew (.refl _)))
end Go.Proofs.YtnefdpnolojojaaGreat
